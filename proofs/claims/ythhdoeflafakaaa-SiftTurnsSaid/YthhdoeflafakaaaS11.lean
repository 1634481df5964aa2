/- Walks: SiftTurns. -/
import Derived.Test.YthhdoeflafakaaaS8
import Derived.Test.YthhdoeflafakaaaS10
set_option linter.unusedSimpArgs false
set_option linter.unusedVariables false
namespace Go.Proofs.Ythhdoeflafakaaa
open Sx
theorem Try.fa37_0 : Sx.FA Try.prog 37 0 0 := ⟨_, _, _, _, _, Try.underlying37, rfl, rfl, Try.ti3, by decide⟩
theorem Try.can6 : Sx.Can Try.prog 6 := ⟨_, Try.func6, by kernel_rfl, rfl⟩
set_option maxHeartbeats 4000000 in
theorem Turns_all {ad : Option Addr} {c : Nat} (l : List Op) {w : World} (hs : Ss w ad Op.cells 14 l) (hw : ∀ x ∈ l, Ss w x.f.ad Wt.cells 4 x.f.ws ∧ (∀ y ∈ x.f.ws, y.wf) ∧ (x.f.ad = none → x.f.ws.length = 0 ∧ x.f.c = 0) ∧ x.f.ws.length ≤ 9223372036854775806) (hl : l.length ≤ 9223372036854775806) (hlc : l.length ≤ c) (at_ : Stp) : Calls Try.prog 6 #[.slice ad l.length c, .agg #[.int .i64 at_.w, .int .i64 at_.l, .int .i64 at_.n]] w fun e w' => e = .returned (.bool true) ∧ Ext No w w' := by
  have R : Ro w No _ := Ro.of fun w' x => hs.ext_no x
  have RM : Ro w No (fun u => ∀ x ∈ l, Ss u x.f.ad Wt.cells 4 x.f.ws) := Ro.of fun w' x y hy => ((hw y hy).1).ext_no x
  refine Sx.calls_into Try.func6 rfl Try.ntmps6 rfl fun a hT => ?_
  replace hT := hT.keep [0, 1] rfl
  have H : Sx.Hp w (Sx.No) w [] := Sx.Hp.start _ _
  refine wp_seq_k fun K1 hK1 => ?_
  -- region 0 (extra.go:10)
  refine Sx.wp_text [(0, .run), (1, .take)] rfl ?_
  refine Sx.st_eff hT rfl rfl rfl rfl (Sx.y_box hT rfl rfl rfl _) ?_
  clear hT; rintro _ w1 ⟨b1, rfl, N⟩ a hT
  replace H := H.new N; clear N
  refine Sx.st_take hT rfl rfl rfl rfl (Sx.x_assign hT rfl rfl) ?_
  clear hT; intro a hT
  replace hT := hT.keep [4, 3, 0, 1] rfl
  refine Sx.ser_nil ?_
  refine Sx.then_normal (hK1 _ _ ?_)
  clear hK1
  refine wp_seq_k fun K2 hK2 => ?_
  refine wp_seq_k fun K3 hK3 => ?_
  -- region 1 (extra.go:11)
  refine Sx.wp_text [(0, .run), (1, .take)] rfl ?_
  refine Sx.st_call hT rfl rfl rfl rfl rfl Try.can7 rfl (first_calls _) ?_
  rintro _ w2 ⟨rfl, E⟩
  refine ⟨_, rfl, ?_⟩
  clear hT; intro a hT
  replace H := H.pure E; clear E
  refine Sx.st_take hT rfl rfl rfl rfl (Sx.x_not hT rfl rfl) ?_
  clear hT; intro a hT
  replace hT := hT.keep [15, 4, 3, 0, 1] rfl
  refine Sx.ser_nil ?_
  refine Sx.then_normal (hK3 _ _ ?_)
  clear hK3
  refine Sx.wp_if hT rfl (fun h => by cases h) (fun _ => ?_)
  refine wp_skip ?_
  refine Sx.then_normal (hK2 _ _ ?_)
  clear hK2
  refine wp_seq_k fun K4 hK4 => ?_
  refine wp_seq_k fun K5 hK5 => ?_
  -- region 3 (extra.go:14)
  refine Sx.wp_text [(0, .take), (1, .run), (2, .take)] rfl ?_
  refine Sx.st_take hT rfl rfl rfl rfl (Sx.x_move hT rfl rfl) ?_
  clear hT; intro a hT
  refine Sx.st_call hT rfl rfl rfl rfl rfl Try.can8 rfl (few_calls l (R.at H.ext) (fun x hx => ⟨(RM.at H.ext) x hx, (hw x hx).2⟩) hl) ?_
  rintro _ w3 ⟨b9, rfl, hb9, E⟩
  refine ⟨_, rfl, ?_⟩
  clear hT; intro a hT
  replace H := H.pure E; clear E
  refine Sx.st_take hT rfl rfl rfl rfl (Sx.x_not hT rfl rfl) ?_
  clear hT; intro a hT
  replace hT := hT.keep [18, 15, 4, 3, 0, 1] rfl
  refine Sx.ser_nil ?_
  refine Sx.then_normal (hK5 _ _ ?_)
  clear hK5
  -- cond 1
  refine Sx.wp_if hT rfl (fun hc6 => ?_) (fun hc6 => ?_)
  · try simp only [decide_eq_true_eq, decide_eq_false_iff_not, Bool.not_eq_true', Bool.not_eq_false', Bool.not_eq_true, Bool.not_eq_false, Bool.and_eq_true, Bool.or_eq_false_iff, beq_iff_eq, bne_iff_ne, Int.not_lt, Int.not_le, ne_eq] at hc6
    refine wp_seq_k fun K7 hK7 => ?_
    -- region 4 (extra.go:15)
    refine Sx.wp_text [(0, .run), (1, .take)] rfl ?_
    refine Sx.st_call hT rfl rfl rfl rfl rfl Try.can7 rfl (first_calls _) ?_
    rintro _ w4 ⟨rfl, E⟩
    refine ⟨_, rfl, ?_⟩
    clear hT; intro a hT
    replace H := H.pure E; clear E
    refine Sx.st_take hT rfl rfl rfl rfl (Sx.x_assign hT rfl rfl) ?_
    clear hT; intro a hT
    replace hT := hT.keep [4, 18, 15, 3, 0, 1] rfl
    refine Sx.ser_nil ?_
    refine Sx.then_normal (hK7 _ _ ?_)
    clear hK7
    refine wp_ret ?_
    refine Sx.then_ret ?_
    refine Sx.done1 (fn := Try.f6) hT rfl (.tmp (hT.get 4 _ rfl)) ?_
    exact ⟨ret_b (by simp), H.ext⟩
  · try simp only [decide_eq_true_eq, decide_eq_false_iff_not, Bool.not_eq_true', Bool.not_eq_false', Bool.not_eq_true, Bool.not_eq_false, Bool.and_eq_true, Bool.or_eq_false_iff, beq_iff_eq, bne_iff_ne, Int.not_lt, Int.not_le, ne_eq] at hc6
    obtain ⟨hl3, hws⟩ := hb9 (by simpa using hc6)
    refine wp_skip ?_
    refine Sx.then_normal (hK4 _ _ ?_)
    clear hK4
    refine wp_seq_k fun K8 hK8 => ?_
    -- region 5 (extra.go:17)
    refine Sx.wp_text [(0, .run), (1, .run), (2, .take), (3, .take)] rfl ?_
    refine Sx.st_call hT rfl rfl rfl rfl rfl Try.can9 rfl (SNew_calls _) ?_
    rintro _ w5 ⟨p, rfl, K⟩
    refine ⟨_, rfl, ?_⟩
    clear hT; intro a hT
    replace H := H.more K rfl; clear K
    refine Sx.st_call hT rfl rfl rfl rfl rfl Try.can9 rfl (SNew_calls _) ?_
    rintro _ w6 ⟨q, rfl, K⟩
    refine ⟨_, rfl, ?_⟩
    clear hT; intro a hT
    replace H := H.more K rfl; clear K
    refine Sx.st_take hT rfl rfl rfl rfl (Sx.x_assign hT rfl rfl) ?_
    clear hT; intro a hT
    refine Sx.st_take hT rfl rfl rfl rfl (Sx.x_assign hT rfl rfl) ?_
    clear hT; intro a hT
    replace hT := hT.keep [6, 5, 18, 15, 4, 3, 0, 1] rfl
    refine Sx.ser_nil ?_
    refine Sx.then_normal (hK8 _ _ ?_)
    clear hK8
    refine wp_seq_k fun K9 hK9 => ?_
    refine wp_seq_k fun K10 hK10 => ?_
    -- region 6 (extra.go:18)
    refine Sx.wp_text [(0, .take), (1, .take), (2, .take), (3, .take), (4, .take), (5, .take)] rfl ?_
    refine Sx.st_take hT rfl rfl rfl rfl (Sx.x_move hT rfl rfl) ?_
    clear hT; intro a hT
    refine Sx.st_take hT rfl rfl rfl rfl (Sx.x_eqnil_some hT rfl Try.underlying25 rfl rfl) ?_
    clear hT; intro a hT
    refine Sx.st_take hT rfl rfl rfl rfl (Sx.x_move hT rfl rfl) ?_
    clear hT; intro a hT
    refine Sx.st_take hT rfl rfl rfl rfl (Sx.x_move hT rfl rfl) ?_
    clear hT; intro a hT
    refine Sx.st_take hT rfl rfl rfl rfl (Sx.x_eqnil_some hT rfl Try.underlying25 rfl rfl) ?_
    clear hT; intro a hT
    refine Sx.st_take hT rfl rfl rfl rfl (Sx.x_pick_f hT rfl rfl rfl) ?_
    clear hT; intro a hT
    replace hT := hT.keep [27, 6, 5, 18, 15, 4, 3, 0, 1] rfl
    refine Sx.ser_nil ?_
    refine Sx.then_normal (hK10 _ _ ?_)
    clear hK10
    refine Sx.wp_if hT rfl (fun h => by cases h) (fun _ => ?_)
    refine wp_skip ?_
    refine Sx.then_normal (hK9 _ _ ?_)
    clear hK9
    refine wp_seq_k fun K11 hK11 => ?_
    refine Sx.wp_join (G := Nat) (fun n => [(0, .slice ad n c)]) (fun n => []) (fun n => n ≤ l.length ∧ okA (addsO (l.take n))) (hT.keep [27, 6, 5, 18, 15, 4, 3, 1] rfl) (H.keep [0, 1, 2, 6] rfl rfl) hK11 ?_ ?_
    · clear hT H hK11
      rintro n a w7 hJ hT H
      replace hT := hT.keep [0, 27, 6, 5, 18, 15, 4, 3, 1] rfl
      replace H := H.keep [0, 1, 2, 3] rfl rfl
      obtain ⟨hn, hok⟩ := hJ
      obtain ⟨l9, hl9⟩ : ∃ m, m = l.take n := ⟨_, rfl⟩
      have hl9l : l9.length = n := by rw [hl9, List.length_take, Nat.min_eq_left hn]
      rw [← hl9] at hok
      have R9 : Ro w No (fun u => Ss u ad Op.cells 14 l9) := R.mono fun u h => by rw [hl9]; exact ss_take Op.len h hn
      have hin9 : ∀ x ∈ l9, x ∈ l := fun x hx => by rw [hl9] at hx; exact List.mem_of_mem_take hx
      clear hl9
      subst hl9l
      refine wp_seq_k fun K12 hK12 => ?_
      -- region 13 (extra.go:27)
      refine Sx.wp_text [(0, .run), (1, .take)] rfl ?_
      refine Sx.st_call hT rfl rfl rfl rfl rfl Try.can9 rfl (SNew_calls _) ?_
      rintro _ w8 ⟨r, rfl, K⟩
      refine ⟨_, rfl, ?_⟩
      clear hT; intro a hT
      replace H := H.more K rfl; clear K
      refine Sx.st_take hT rfl rfl rfl rfl (Sx.x_assign hT rfl rfl) ?_
      clear hT; intro a hT
      replace hT := hT.keep [5, 0, 27, 6, 18, 15, 4, 3, 1] rfl
      refine Sx.ser_nil ?_
      refine Sx.then_normal (hK12 _ _ ?_)
      clear hK12
      refine wp_seq_k fun K13 hK13 => ?_
      refine wp_seq_k fun K14 hK14 => ?_
      -- region 14 (extra.go:28)
      refine Sx.wp_text [(0, .take)] rfl ?_
      refine Sx.st_take hT rfl rfl rfl rfl (Sx.x_assign hT rfl rfl) ?_
      clear hT; intro a hT
      replace hT := hT.keep [8, 5, 0, 27, 6, 18, 15, 4, 3, 1] rfl
      refine Sx.ser_nil ?_
      refine Sx.then_normal (hK14 _ _ ?_)
      clear hK14
      refine wp_block ?_
      -- loop 1
      refine Sx.wp_loopH (G := Nat × List Fr × Option Addr × Nat × List Fr × Option Addr × Nat) (fun ⟨i, L, ad1, c1, M, ad2, c2⟩ => [(8, .int .i64 (i : Int))]) (fun ⟨i, L, ad1, c1, M, ad2, c2⟩ => [cB r [.slice ad1 (List.length L) c1] 68, cR 35 9 ad1 (L).length c1 ((L).flatMap Fr.cells), cF 50 4 Fr.rw (L), cB q [.slice ad2 (List.length M) c2] 68, cR 35 9 ad2 (M).length c2 ((M).flatMap Fr.cells), cF 50 4 Fr.rw (M)]) (fun ⟨i, L, ad1, c1, M, ad2, c2⟩ => i ≤ l9.length ∧ L.map Fr.p = foldA [] (addsO (l9.take i)) ∧ M.map Fr.p = foldA [] (addsO (l9.drop (l9.length - i))).reverse ∧ L.length ≤ i ∧ M.length ≤ i) (fun ⟨i, L, ad1, c1, M, ad2, c2⟩ => l9.length - i) (0, [], none, 0, [], none, 0) (hT.keep [8, 5, 0, 27, 6, 18, 15, 3, 1] rfl) (H.keep [0, 1, 2, 3, 4, 5, 6] rfl rfl) (⟨Nat.zero_le _, (by rw [List.take_zero]; rfl), (by rw [Nat.sub_zero, List.drop_length]; rfl), Nat.le_refl _, Nat.le_refl _⟩) ?_
      clear hT H
      rintro ⟨i, L, ad1, c1, M, ad2, c2⟩ a w9 hJ hT H
      replace hT := hT.keep [8, 5, 0, 27, 6, 18, 15, 3, 1] rfl
      replace H := H.keep [0, 1, 2, 3, 4, 5, 6] rfl rfl
      obtain ⟨hi, hLp, hMp, hLi, hMi⟩ := hJ
      refine wp_seq_k fun K15 hK15 => ?_
      refine wp_seq_k fun K16 hK16 => ?_
      -- region 15 (extra.go:28)
      refine Sx.wp_text [(0, .take), (1, .take), (2, .take), (3, .take)] rfl ?_
      refine Sx.st_take hT rfl rfl rfl rfl (Sx.x_move hT rfl rfl) ?_
      clear hT; intro a hT
      refine Sx.st_take hT rfl rfl rfl rfl (Sx.x_move hT rfl rfl) ?_
      clear hT; intro a hT
      refine Sx.st_take hT rfl rfl rfl rfl (Sx.x_len_slice hT rfl rfl Try.underlying22 rfl) ?_
      clear hT; intro a hT
      refine Sx.st_take hT rfl rfl rfl rfl ((fun w => Sx.x_lt w hT rfl rfl rfl)) ?_
      clear hT; intro a hT
      replace hT := hT.keep [57, 8, 5, 0, 27, 6, 18, 15, 3, 1] rfl
      refine Sx.ser_nil ?_
      refine Sx.then_normal (hK16 _ _ ?_)
      clear hK16
      -- cond 5
      refine Sx.wp_if hT rfl (fun hc17 => ?_) (fun hc17 => ?_)
      · try simp only [decide_eq_true_eq, decide_eq_false_iff_not, Bool.not_eq_true', Bool.not_eq_false', Bool.not_eq_true, Bool.not_eq_false, Bool.and_eq_true, Bool.or_eq_false_iff, beq_iff_eq, bne_iff_ne, Int.not_lt, Int.not_le, ne_eq] at hc17
        obtain ⟨o, ho⟩ : ∃ o, l9[i]? = some o := ⟨_, List.getElem?_eq_getElem (by omega)⟩
        obtain ⟨o2, ho2⟩ : ∃ o, l9[l9.length - 1 - i]? = some o := ⟨_, List.getElem?_eq_getElem (by omega)⟩
        have hom := hin9 o (List.mem_of_getElem? ho)
        have hom2 := hin9 o2 (List.mem_of_getElem? ho2)
        obtain ⟨-, -, hon, -⟩ := hw o hom
        obtain ⟨-, -, hon2, -⟩ := hw o2 hom2
        have how := hws o hom
        have how2 := hws o2 hom2
        have RMx : Ro w No (fun u => Ss u o.f.ad Wt.cells 4 o.f.ws) := RM.mono fun u h => h o hom
        have RMy : Ro w No (fun u => Ss u o2.f.ad Wt.cells 4 o2.f.ws) := RM.mono fun u h => h o2 hom2
        have hHd : Held (L.map Fr.p) := by rw [hLp]; exact held_fold held_nil
        have hHm : Held (M.map Fr.p) := by rw [hMp]; exact held_fold held_nil
        refine wp_skip ?_
        refine Sx.then_normal (hK15 _ _ ?_)
        clear hK15
        refine wp_seq_k fun K18 hK18 => ?_
        refine wp_block ?_
        refine wp_seq_k fun K19 hK19 => ?_
        refine wp_seq_k fun K20 hK20 => ?_
        -- region 17 (extra.go:29)
        refine Sx.wp_text [(0, .take), (1, .take), (2, .take), (3, .take), (4, .run), (5, .take), (6, .take), (7, .take), (8, .take), (9, .take), (10, .take), (11, .take), (12, .run), (13, .run), (14, .take), (15, .take)] rfl ?_
        refine Sx.st_take hT rfl rfl rfl rfl (Sx.x_move hT rfl rfl) ?_
        clear hT; intro a hT
        refine Sx.st_take hT rfl rfl rfl rfl (Sx.x_move hT rfl rfl) ?_
        clear hT; intro a hT
        refine Sx.st_take hT rfl rfl rfl rfl (Sx.x_index (k := i) hT rfl Try.underlying22 Try.ti37 (R9.at H.ext).sv rfl rfl (by first | rfl | omega) (by omega)) ?_
        clear hT; intro a hT
        refine Sx.st_take hT rfl rfl rfl rfl (Sx.x_fieldAddr hT rfl Try.fa37_0 rfl) ?_
        clear hT; intro a hT
        refine Sx.st_run hT rfl rfl rfl rfl (Sx.x_load1 hT rfl Try.fl3 rfl (by first | exact ((H.blk 0 rfl).nth rfl) | exact ((H.blk 3 rfl).nth rfl) | exact ((H.blk 6 rfl).nth rfl) | exact ((R9.at H.ext).cell (j := 0) Op.len ho rfl) | exact ((R9.at H.ext).cell (j := 0) Op.len ho2 rfl))) ?_
        clear hT; intro a hT
        refine Sx.st_take hT rfl rfl rfl rfl ((fun w => Sx.x_eq w hT rfl rfl rfl)) ?_
        clear hT; intro a hT
        refine Sx.st_take hT rfl rfl rfl rfl (Sx.x_move hT rfl rfl) ?_
        clear hT; intro a hT
        -- guard (17, 6)
        refine Sx.Sl.two hT 66 rfl (fun hc21 hT => ?_) (fun hc21 hT => ?_)
        · try simp only [decide_eq_true_eq, decide_eq_false_iff_not, Bool.not_eq_true', Bool.not_eq_false', Bool.not_eq_true, Bool.not_eq_false, Bool.and_eq_true, Bool.or_eq_false_iff, beq_iff_eq, bne_iff_ne, Int.not_lt, Int.not_le, ne_eq] at hc21
          have hk1 : o.k = 1 := hc21
          have hfw := fwd hok ho hk1
          have hadd : addE (L.map Fr.p) o.f.p = 0 := by rw [hLp]; exact hfw.1
          refine Sx.st_take hT rfl rfl rfl rfl (Sx.x_move hT rfl rfl) ?_
          clear hT; intro a hT
          refine Sx.st_take hT rfl rfl rfl rfl (Sx.x_move hT rfl rfl) ?_
          clear hT; intro a hT
          refine Sx.st_take hT rfl rfl rfl rfl (Sx.x_move hT rfl rfl) ?_
          clear hT; intro a hT
          refine Sx.st_take hT rfl rfl rfl rfl (Sx.x_index (k := i) hT rfl Try.underlying22 Try.ti37 (R9.at H.ext).sv rfl rfl (by first | rfl | omega) (by omega)) ?_
          clear hT; intro a hT
          refine Sx.st_take hT rfl rfl rfl rfl (Sx.x_fieldAddr hT rfl Try.fa37_2 rfl) ?_
          clear hT; intro a hT
          refine Sx.st_run hT rfl rfl rfl rfl (Sx.y_loadS hT rfl Try.underlying35 Try.ti35 rfl (by first | exact ((H.blk 0 rfl).seg (k := 9) rfl) | exact ((H.blk 3 rfl).seg (k := 9) rfl) | exact ((H.blk 6 rfl).seg (k := 9) rfl) | exact (((R9.at H.ext).cs Op.len ho).seg (i := 2) (k := 9) rfl) | exact (((R9.at H.ext).cs Op.len ho2).seg (i := 2) (k := 9) rfl)) (by rfl)) ?_
          clear hT; intro a hT
          refine Sx.st_call hT rfl rfl rfl rfl rfl Try.can11 rfl (Add_calls o.f (H.pre [0, 1, 2] rfl rfl) (H.ro RMx [0, 1, 2] rfl) hon (by omega) hHd (by omega)) ?_
          rintro _ w10 ⟨ad9, c9, L1, rfl, K, hp1⟩
          refine ⟨_, rfl, ?_⟩
          clear hT; intro a hT
          replace H := H.back [0, 1, 2] [3, 4, 5, 6] rfl rfl rfl K rfl; clear K
          have hf1 := has_add hadd
          rw [← hp1, List.length_map, List.length_map] at hf1
          rw [hadd] at hT
          rw [hLp, hfw.2] at hp1
          refine Sx.st_take hT rfl rfl rfl rfl ((fun w => Sx.x_ne w hT rfl rfl rfl)) ?_
          clear hT; intro a hT
          refine Sx.st_take hT rfl rfl rfl rfl (Sx.x_pick_t hT rfl rfl rfl) ?_
          clear hT; intro a hT
          replace hT := hT.keep [75, 57, 8, 5, 0, 27, 6, 18, 15, 3, 1] rfl
          refine Sx.ser_nil ?_
          refine Sx.then_normal (hK20 _ _ ?_)
          clear hK20
          -- cond 6
          refine Sx.wp_if hT rfl (fun hc22 => ?_) (fun hc22 => ?_)
          · exfalso
            try simp only [decide_eq_true_eq, decide_eq_false_iff_not, Bool.not_eq_true', Bool.not_eq_false', Bool.not_eq_true, Bool.not_eq_false, Bool.and_eq_true, Bool.or_eq_false_iff, beq_iff_eq, bne_iff_ne, Int.not_lt, Int.not_le, ne_eq] at hc22
            simp at hc22
          · try simp only [decide_eq_true_eq, decide_eq_false_iff_not, Bool.not_eq_true', Bool.not_eq_false', Bool.not_eq_true, Bool.not_eq_false, Bool.and_eq_true, Bool.or_eq_false_iff, beq_iff_eq, bne_iff_ne, Int.not_lt, Int.not_le, ne_eq] at hc22
            refine wp_skip ?_
            refine Sx.then_normal (hK19 _ _ ?_)
            clear hK19
            refine wp_seq_k fun K23 hK23 => ?_
            -- region 19 (extra.go:32)
            refine Sx.wp_text [(0, .take), (1, .take), (2, .take), (3, .take), (4, .take), (5, .take)] rfl ?_
            refine Sx.st_take hT rfl rfl rfl rfl (Sx.x_move hT rfl rfl) ?_
            clear hT; intro a hT
            refine Sx.st_take hT rfl rfl rfl rfl (Sx.x_len_slice hT rfl rfl Try.underlying22 rfl) ?_
            clear hT; intro a hT
            refine Sx.st_take hT rfl rfl rfl rfl ((fun w => Sx.x_sub w hT rfl rfl rfl (Sx.wrap64 (by omega)))) ?_
            clear hT; intro a hT
            refine Sx.st_take hT rfl rfl rfl rfl (Sx.x_move hT rfl rfl) ?_
            clear hT; intro a hT
            refine Sx.st_take hT rfl rfl rfl rfl ((fun w => Sx.x_sub w hT rfl rfl rfl (Sx.wrap64 (by omega)))) ?_
            clear hT; intro a hT
            refine Sx.st_take hT rfl rfl rfl rfl (Sx.x_assign hT rfl rfl) ?_
            clear hT; intro a hT
            replace hT := hT.keep [9, 75, 57, 8, 5, 0, 27, 6, 18, 15, 3, 1] rfl
            refine Sx.ser_nil ?_
            refine Sx.then_normal (hK23 _ _ ?_)
            clear hK23
            refine wp_seq_k fun K24 hK24 => ?_
            -- region 20 (extra.go:33)
            refine Sx.wp_text [(0, .take), (1, .take), (2, .take), (3, .take), (4, .run), (5, .take), (6, .take), (7, .take), (8, .take), (9, .take), (10, .take), (11, .take), (12, .run), (13, .run), (14, .take), (15, .take)] rfl ?_
            refine Sx.st_take hT rfl rfl rfl rfl (Sx.x_move hT rfl rfl) ?_
            clear hT; intro a hT
            refine Sx.st_take hT rfl rfl rfl rfl (Sx.x_move hT rfl rfl) ?_
            clear hT; intro a hT
            refine Sx.st_take hT rfl rfl rfl rfl (Sx.x_index (k := l9.length - 1 - i) hT rfl Try.underlying22 Try.ti37 (R9.at H.ext).sv rfl rfl (by first | rfl | omega) (by omega)) ?_
            clear hT; intro a hT
            refine Sx.st_take hT rfl rfl rfl rfl (Sx.x_fieldAddr hT rfl Try.fa37_0 rfl) ?_
            clear hT; intro a hT
            refine Sx.st_run hT rfl rfl rfl rfl (Sx.x_load1 hT rfl Try.fl3 rfl (by first | exact ((H.blk 0 rfl).nth rfl) | exact ((H.blk 3 rfl).nth rfl) | exact ((H.blk 6 rfl).nth rfl) | exact ((R9.at H.ext).cell (j := 0) Op.len ho rfl) | exact ((R9.at H.ext).cell (j := 0) Op.len ho2 rfl))) ?_
            clear hT; intro a hT
            refine Sx.st_take hT rfl rfl rfl rfl ((fun w => Sx.x_eq w hT rfl rfl rfl)) ?_
            clear hT; intro a hT
            refine Sx.st_take hT rfl rfl rfl rfl (Sx.x_move hT rfl rfl) ?_
            clear hT; intro a hT
            -- guard (20, 6)
            refine Sx.Sl.two hT 87 rfl (fun hc25 hT => ?_) (fun hc25 hT => ?_)
            · try simp only [decide_eq_true_eq, decide_eq_false_iff_not, Bool.not_eq_true', Bool.not_eq_false', Bool.not_eq_true, Bool.not_eq_false, Bool.and_eq_true, Bool.or_eq_false_iff, beq_iff_eq, bne_iff_ne, Int.not_lt, Int.not_le, ne_eq] at hc25
              have hk2 : o2.k = 1 := hc25
              have hbw := bwd hok ho2 hk2
              rw [show l9.length - 1 - i + 1 = l9.length - i from by omega] at hbw
              have hadd2 : addE (M.map Fr.p) o2.f.p = 0 := by rw [hMp]; exact hbw.1
              refine Sx.st_take hT rfl rfl rfl rfl (Sx.x_move hT rfl rfl) ?_
              clear hT; intro a hT
              refine Sx.st_take hT rfl rfl rfl rfl (Sx.x_move hT rfl rfl) ?_
              clear hT; intro a hT
              refine Sx.st_take hT rfl rfl rfl rfl (Sx.x_move hT rfl rfl) ?_
              clear hT; intro a hT
              refine Sx.st_take hT rfl rfl rfl rfl (Sx.x_index (k := l9.length - 1 - i) hT rfl Try.underlying22 Try.ti37 (R9.at H.ext).sv rfl rfl (by first | rfl | omega) (by omega)) ?_
              clear hT; intro a hT
              refine Sx.st_take hT rfl rfl rfl rfl (Sx.x_fieldAddr hT rfl Try.fa37_2 rfl) ?_
              clear hT; intro a hT
              refine Sx.st_run hT rfl rfl rfl rfl (Sx.y_loadS hT rfl Try.underlying35 Try.ti35 rfl (by first | exact ((H.blk 0 rfl).seg (k := 9) rfl) | exact ((H.blk 3 rfl).seg (k := 9) rfl) | exact ((H.blk 6 rfl).seg (k := 9) rfl) | exact (((R9.at H.ext).cs Op.len ho).seg (i := 2) (k := 9) rfl) | exact (((R9.at H.ext).cs Op.len ho2).seg (i := 2) (k := 9) rfl)) (by rfl)) ?_
              clear hT; intro a hT
              refine Sx.st_call hT rfl rfl rfl rfl rfl Try.can11 rfl (Add_calls o2.f (H.pre [3, 4, 5] rfl rfl) (H.ro RMy [3, 4, 5] rfl) hon2 (by omega) hHm (by omega)) ?_
              rintro _ w11 ⟨ad8, c8, M1, rfl, K, hp2⟩
              refine ⟨_, rfl, ?_⟩
              clear hT; intro a hT
              replace H := H.back [3, 4, 5] [0, 1, 2, 6] rfl rfl rfl K rfl; clear K
              have hf2 := has_add hadd2
              rw [← hp2, List.length_map, List.length_map] at hf2
              rw [hadd2] at hT
              rw [hMp, hbw.2] at hp2
              refine Sx.st_take hT rfl rfl rfl rfl ((fun w => Sx.x_ne w hT rfl rfl rfl)) ?_
              clear hT; intro a hT
              refine Sx.st_take hT rfl rfl rfl rfl (Sx.x_pick_t hT rfl rfl rfl) ?_
              clear hT; intro a hT
              replace hT := hT.keep [96, 9, 75, 57, 8, 5, 0, 27, 6, 18, 15, 3, 1] rfl
              refine Sx.ser_nil ?_
              refine Sx.then_normal (hK24 _ _ ?_)
              clear hK24
              -- cond 7
              refine Sx.wp_if hT rfl (fun hc26 => ?_) (fun hc26 => ?_)
              · exfalso
                try simp only [decide_eq_true_eq, decide_eq_false_iff_not, Bool.not_eq_true', Bool.not_eq_false', Bool.not_eq_true, Bool.not_eq_false, Bool.and_eq_true, Bool.or_eq_false_iff, beq_iff_eq, bne_iff_ne, Int.not_lt, Int.not_le, ne_eq] at hc26
                simp at hc26
              · try simp only [decide_eq_true_eq, decide_eq_false_iff_not, Bool.not_eq_true', Bool.not_eq_false', Bool.not_eq_true, Bool.not_eq_false, Bool.and_eq_true, Bool.or_eq_false_iff, beq_iff_eq, bne_iff_ne, Int.not_lt, Int.not_le, ne_eq] at hc26
                refine wp_skip ?_
                refine Sx.block_normal ?_
                refine Sx.then_normal (hK18 _ _ ?_)
                clear hK18
                -- region 16 (extra.go:28)
                refine Sx.wp_text [(0, .take), (1, .take), (2, .take)] rfl ?_
                refine Sx.st_take hT rfl rfl rfl rfl (Sx.x_move hT rfl rfl) ?_
                clear hT; intro a hT
                refine Sx.st_take hT rfl rfl rfl rfl ((fun w => Sx.x_add w hT rfl rfl rfl (Sx.wrap64 (by omega)))) ?_
                clear hT; intro a hT
                refine Sx.st_take hT rfl rfl rfl rfl (Sx.x_assign hT rfl rfl) ?_
                clear hT; intro a hT
                replace hT := hT.keep [8, 96, 9, 75, 57, 5, 0, 27, 6, 18, 15, 3, 1] rfl
                refine Sx.ser_nil ?_
                refine Sx.then_normal ?_
                exact ⟨(i + 1, L1, ad9, c9, M1, ad8, c8), ⟨by show i + 1 ≤ _; omega, hp1, by show M1.map Fr.p = _; rw [hp2, show l9.length - (i + 1) = l9.length - 1 - i from by omega], by show List.length L1 ≤ i + 1; omega, by show List.length M1 ≤ i + 1; omega⟩, (hT.keep [8, 5, 0, 27, 6, 18, 15, 3, 1] rfl), (H.keep [3, 4, 5, 0, 1, 2, 6] rfl rfl), by show _ - (i + 1) < _ - i; omega⟩
            · try simp only [decide_eq_true_eq, decide_eq_false_iff_not, Bool.not_eq_true', Bool.not_eq_false', Bool.not_eq_true, Bool.not_eq_false, Bool.and_eq_true, Bool.or_eq_false_iff, beq_iff_eq, bne_iff_ne, Int.not_lt, Int.not_le, ne_eq] at hc25
              have hk2 : ¬ o2.k = 1 := hc25
              refine Sx.st_skip hT rfl rfl rfl rfl ?_
              clear hT; intro a hT
              refine Sx.st_skip hT rfl rfl rfl rfl ?_
              clear hT; intro a hT
              refine Sx.st_skip hT rfl rfl rfl rfl ?_
              clear hT; intro a hT
              refine Sx.st_skip hT rfl rfl rfl rfl ?_
              clear hT; intro a hT
              refine Sx.st_skip hT rfl rfl rfl rfl ?_
              clear hT; intro a hT
              refine Sx.st_runskip hT rfl rfl rfl rfl ?_
              clear hT; intro a hT
              refine Sx.st_runskip hT rfl rfl rfl rfl ?_
              clear hT; intro a hT
              refine Sx.st_skip hT rfl rfl rfl rfl ?_
              clear hT; intro a hT
              refine Sx.st_take hT rfl rfl rfl rfl (Sx.x_pick_f hT rfl rfl rfl) ?_
              clear hT; intro a hT
              replace hT := hT.keep [96, 9, 75, 57, 8, 5, 0, 27, 6, 18, 15, 3, 1] rfl
              refine Sx.ser_nil ?_
              refine Sx.then_normal (hK24 _ _ ?_)
              clear hK24
              refine Sx.wp_if hT rfl (fun h => by cases h) (fun _ => ?_)
              refine wp_skip ?_
              refine Sx.block_normal ?_
              refine Sx.then_normal (hK18 _ _ ?_)
              clear hK18
              -- region 16 (extra.go:28)
              refine Sx.wp_text [(0, .take), (1, .take), (2, .take)] rfl ?_
              refine Sx.st_take hT rfl rfl rfl rfl (Sx.x_move hT rfl rfl) ?_
              clear hT; intro a hT
              refine Sx.st_take hT rfl rfl rfl rfl ((fun w => Sx.x_add w hT rfl rfl rfl (Sx.wrap64 (by omega)))) ?_
              clear hT; intro a hT
              refine Sx.st_take hT rfl rfl rfl rfl (Sx.x_assign hT rfl rfl) ?_
              clear hT; intro a hT
              replace hT := hT.keep [8, 96, 9, 75, 57, 5, 0, 27, 6, 18, 15, 3, 1] rfl
              refine Sx.ser_nil ?_
              refine Sx.then_normal ?_
              exact ⟨(i + 1, L1, ad9, c9, M, ad2, c2), ⟨by show i + 1 ≤ _; omega, hp1, by show M.map Fr.p = _; rw [hMp, show l9.length - (i + 1) = l9.length - 1 - i from by omega, adds_drop ho2, if_neg hk2, show l9.length - 1 - i + 1 = l9.length - i from by omega], by show List.length L1 ≤ i + 1; omega, by show List.length M ≤ i + 1; omega⟩, (hT.keep [8, 5, 0, 27, 6, 18, 15, 3, 1] rfl), (H.keep [0, 1, 2, 3, 4, 5, 6] rfl rfl), by show _ - (i + 1) < _ - i; omega⟩
        · try simp only [decide_eq_true_eq, decide_eq_false_iff_not, Bool.not_eq_true', Bool.not_eq_false', Bool.not_eq_true, Bool.not_eq_false, Bool.and_eq_true, Bool.or_eq_false_iff, beq_iff_eq, bne_iff_ne, Int.not_lt, Int.not_le, ne_eq] at hc21
          have hk1 : ¬ o.k = 1 := hc21
          refine Sx.st_skip hT rfl rfl rfl rfl ?_
          clear hT; intro a hT
          refine Sx.st_skip hT rfl rfl rfl rfl ?_
          clear hT; intro a hT
          refine Sx.st_skip hT rfl rfl rfl rfl ?_
          clear hT; intro a hT
          refine Sx.st_skip hT rfl rfl rfl rfl ?_
          clear hT; intro a hT
          refine Sx.st_skip hT rfl rfl rfl rfl ?_
          clear hT; intro a hT
          refine Sx.st_runskip hT rfl rfl rfl rfl ?_
          clear hT; intro a hT
          refine Sx.st_runskip hT rfl rfl rfl rfl ?_
          clear hT; intro a hT
          refine Sx.st_skip hT rfl rfl rfl rfl ?_
          clear hT; intro a hT
          refine Sx.st_take hT rfl rfl rfl rfl (Sx.x_pick_f hT rfl rfl rfl) ?_
          clear hT; intro a hT
          replace hT := hT.keep [75, 57, 8, 5, 0, 27, 6, 18, 15, 3, 1] rfl
          refine Sx.ser_nil ?_
          refine Sx.then_normal (hK20 _ _ ?_)
          clear hK20
          refine Sx.wp_if hT rfl (fun h => by cases h) (fun _ => ?_)
          refine wp_skip ?_
          refine Sx.then_normal (hK19 _ _ ?_)
          clear hK19
          refine wp_seq_k fun K27 hK27 => ?_
          -- region 19 (extra.go:32)
          refine Sx.wp_text [(0, .take), (1, .take), (2, .take), (3, .take), (4, .take), (5, .take)] rfl ?_
          refine Sx.st_take hT rfl rfl rfl rfl (Sx.x_move hT rfl rfl) ?_
          clear hT; intro a hT
          refine Sx.st_take hT rfl rfl rfl rfl (Sx.x_len_slice hT rfl rfl Try.underlying22 rfl) ?_
          clear hT; intro a hT
          refine Sx.st_take hT rfl rfl rfl rfl ((fun w => Sx.x_sub w hT rfl rfl rfl (Sx.wrap64 (by omega)))) ?_
          clear hT; intro a hT
          refine Sx.st_take hT rfl rfl rfl rfl (Sx.x_move hT rfl rfl) ?_
          clear hT; intro a hT
          refine Sx.st_take hT rfl rfl rfl rfl ((fun w => Sx.x_sub w hT rfl rfl rfl (Sx.wrap64 (by omega)))) ?_
          clear hT; intro a hT
          refine Sx.st_take hT rfl rfl rfl rfl (Sx.x_assign hT rfl rfl) ?_
          clear hT; intro a hT
          replace hT := hT.keep [9, 75, 57, 8, 5, 0, 27, 6, 18, 15, 3, 1] rfl
          refine Sx.ser_nil ?_
          refine Sx.then_normal (hK27 _ _ ?_)
          clear hK27
          refine wp_seq_k fun K28 hK28 => ?_
          -- region 20 (extra.go:33)
          refine Sx.wp_text [(0, .take), (1, .take), (2, .take), (3, .take), (4, .run), (5, .take), (6, .take), (7, .take), (8, .take), (9, .take), (10, .take), (11, .take), (12, .run), (13, .run), (14, .take), (15, .take)] rfl ?_
          refine Sx.st_take hT rfl rfl rfl rfl (Sx.x_move hT rfl rfl) ?_
          clear hT; intro a hT
          refine Sx.st_take hT rfl rfl rfl rfl (Sx.x_move hT rfl rfl) ?_
          clear hT; intro a hT
          refine Sx.st_take hT rfl rfl rfl rfl (Sx.x_index (k := l9.length - 1 - i) hT rfl Try.underlying22 Try.ti37 (R9.at H.ext).sv rfl rfl (by first | rfl | omega) (by omega)) ?_
          clear hT; intro a hT
          refine Sx.st_take hT rfl rfl rfl rfl (Sx.x_fieldAddr hT rfl Try.fa37_0 rfl) ?_
          clear hT; intro a hT
          refine Sx.st_run hT rfl rfl rfl rfl (Sx.x_load1 hT rfl Try.fl3 rfl (by first | exact ((H.blk 0 rfl).nth rfl) | exact ((H.blk 3 rfl).nth rfl) | exact ((H.blk 6 rfl).nth rfl) | exact ((R9.at H.ext).cell (j := 0) Op.len ho rfl) | exact ((R9.at H.ext).cell (j := 0) Op.len ho2 rfl))) ?_
          clear hT; intro a hT
          refine Sx.st_take hT rfl rfl rfl rfl ((fun w => Sx.x_eq w hT rfl rfl rfl)) ?_
          clear hT; intro a hT
          refine Sx.st_take hT rfl rfl rfl rfl (Sx.x_move hT rfl rfl) ?_
          clear hT; intro a hT
          -- guard (20, 6)
          refine Sx.Sl.two hT 87 rfl (fun hc29 hT => ?_) (fun hc29 hT => ?_)
          · try simp only [decide_eq_true_eq, decide_eq_false_iff_not, Bool.not_eq_true', Bool.not_eq_false', Bool.not_eq_true, Bool.not_eq_false, Bool.and_eq_true, Bool.or_eq_false_iff, beq_iff_eq, bne_iff_ne, Int.not_lt, Int.not_le, ne_eq] at hc29
            have hk2 : o2.k = 1 := hc29
            have hbw := bwd hok ho2 hk2
            rw [show l9.length - 1 - i + 1 = l9.length - i from by omega] at hbw
            have hadd2 : addE (M.map Fr.p) o2.f.p = 0 := by rw [hMp]; exact hbw.1
            refine Sx.st_take hT rfl rfl rfl rfl (Sx.x_move hT rfl rfl) ?_
            clear hT; intro a hT
            refine Sx.st_take hT rfl rfl rfl rfl (Sx.x_move hT rfl rfl) ?_
            clear hT; intro a hT
            refine Sx.st_take hT rfl rfl rfl rfl (Sx.x_move hT rfl rfl) ?_
            clear hT; intro a hT
            refine Sx.st_take hT rfl rfl rfl rfl (Sx.x_index (k := l9.length - 1 - i) hT rfl Try.underlying22 Try.ti37 (R9.at H.ext).sv rfl rfl (by first | rfl | omega) (by omega)) ?_
            clear hT; intro a hT
            refine Sx.st_take hT rfl rfl rfl rfl (Sx.x_fieldAddr hT rfl Try.fa37_2 rfl) ?_
            clear hT; intro a hT
            refine Sx.st_run hT rfl rfl rfl rfl (Sx.y_loadS hT rfl Try.underlying35 Try.ti35 rfl (by first | exact ((H.blk 0 rfl).seg (k := 9) rfl) | exact ((H.blk 3 rfl).seg (k := 9) rfl) | exact ((H.blk 6 rfl).seg (k := 9) rfl) | exact (((R9.at H.ext).cs Op.len ho).seg (i := 2) (k := 9) rfl) | exact (((R9.at H.ext).cs Op.len ho2).seg (i := 2) (k := 9) rfl)) (by rfl)) ?_
            clear hT; intro a hT
            refine Sx.st_call hT rfl rfl rfl rfl rfl Try.can11 rfl (Add_calls o2.f (H.pre [3, 4, 5] rfl rfl) (H.ro RMy [3, 4, 5] rfl) hon2 (by omega) hHm (by omega)) ?_
            rintro _ w12 ⟨ad8, c8, M1, rfl, K, hp2⟩
            refine ⟨_, rfl, ?_⟩
            clear hT; intro a hT
            replace H := H.back [3, 4, 5] [0, 1, 2, 6] rfl rfl rfl K rfl; clear K
            have hf2 := has_add hadd2
            rw [← hp2, List.length_map, List.length_map] at hf2
            rw [hadd2] at hT
            rw [hMp, hbw.2] at hp2
            refine Sx.st_take hT rfl rfl rfl rfl ((fun w => Sx.x_ne w hT rfl rfl rfl)) ?_
            clear hT; intro a hT
            refine Sx.st_take hT rfl rfl rfl rfl (Sx.x_pick_t hT rfl rfl rfl) ?_
            clear hT; intro a hT
            replace hT := hT.keep [96, 9, 75, 57, 8, 5, 0, 27, 6, 18, 15, 3, 1] rfl
            refine Sx.ser_nil ?_
            refine Sx.then_normal (hK28 _ _ ?_)
            clear hK28
            -- cond 7
            refine Sx.wp_if hT rfl (fun hc30 => ?_) (fun hc30 => ?_)
            · exfalso
              try simp only [decide_eq_true_eq, decide_eq_false_iff_not, Bool.not_eq_true', Bool.not_eq_false', Bool.not_eq_true, Bool.not_eq_false, Bool.and_eq_true, Bool.or_eq_false_iff, beq_iff_eq, bne_iff_ne, Int.not_lt, Int.not_le, ne_eq] at hc30
              simp at hc30
            · try simp only [decide_eq_true_eq, decide_eq_false_iff_not, Bool.not_eq_true', Bool.not_eq_false', Bool.not_eq_true, Bool.not_eq_false, Bool.and_eq_true, Bool.or_eq_false_iff, beq_iff_eq, bne_iff_ne, Int.not_lt, Int.not_le, ne_eq] at hc30
              refine wp_skip ?_
              refine Sx.block_normal ?_
              refine Sx.then_normal (hK18 _ _ ?_)
              clear hK18
              -- region 16 (extra.go:28)
              refine Sx.wp_text [(0, .take), (1, .take), (2, .take)] rfl ?_
              refine Sx.st_take hT rfl rfl rfl rfl (Sx.x_move hT rfl rfl) ?_
              clear hT; intro a hT
              refine Sx.st_take hT rfl rfl rfl rfl ((fun w => Sx.x_add w hT rfl rfl rfl (Sx.wrap64 (by omega)))) ?_
              clear hT; intro a hT
              refine Sx.st_take hT rfl rfl rfl rfl (Sx.x_assign hT rfl rfl) ?_
              clear hT; intro a hT
              replace hT := hT.keep [8, 96, 9, 75, 57, 5, 0, 27, 6, 18, 15, 3, 1] rfl
              refine Sx.ser_nil ?_
              refine Sx.then_normal ?_
              exact ⟨(i + 1, L, ad1, c1, M1, ad8, c8), ⟨by show i + 1 ≤ _; omega, by show L.map Fr.p = _; rw [hLp, adds_snoc ho, if_neg hk1], by show M1.map Fr.p = _; rw [hp2, show l9.length - (i + 1) = l9.length - 1 - i from by omega], by show List.length L ≤ i + 1; omega, by show List.length M1 ≤ i + 1; omega⟩, (hT.keep [8, 5, 0, 27, 6, 18, 15, 3, 1] rfl), (H.keep [3, 4, 5, 0, 1, 2, 6] rfl rfl), by show _ - (i + 1) < _ - i; omega⟩
          · try simp only [decide_eq_true_eq, decide_eq_false_iff_not, Bool.not_eq_true', Bool.not_eq_false', Bool.not_eq_true, Bool.not_eq_false, Bool.and_eq_true, Bool.or_eq_false_iff, beq_iff_eq, bne_iff_ne, Int.not_lt, Int.not_le, ne_eq] at hc29
            have hk2 : ¬ o2.k = 1 := hc29
            refine Sx.st_skip hT rfl rfl rfl rfl ?_
            clear hT; intro a hT
            refine Sx.st_skip hT rfl rfl rfl rfl ?_
            clear hT; intro a hT
            refine Sx.st_skip hT rfl rfl rfl rfl ?_
            clear hT; intro a hT
            refine Sx.st_skip hT rfl rfl rfl rfl ?_
            clear hT; intro a hT
            refine Sx.st_skip hT rfl rfl rfl rfl ?_
            clear hT; intro a hT
            refine Sx.st_runskip hT rfl rfl rfl rfl ?_
            clear hT; intro a hT
            refine Sx.st_runskip hT rfl rfl rfl rfl ?_
            clear hT; intro a hT
            refine Sx.st_skip hT rfl rfl rfl rfl ?_
            clear hT; intro a hT
            refine Sx.st_take hT rfl rfl rfl rfl (Sx.x_pick_f hT rfl rfl rfl) ?_
            clear hT; intro a hT
            replace hT := hT.keep [96, 9, 75, 57, 8, 5, 0, 27, 6, 18, 15, 3, 1] rfl
            refine Sx.ser_nil ?_
            refine Sx.then_normal (hK28 _ _ ?_)
            clear hK28
            refine Sx.wp_if hT rfl (fun h => by cases h) (fun _ => ?_)
            refine wp_skip ?_
            refine Sx.block_normal ?_
            refine Sx.then_normal (hK18 _ _ ?_)
            clear hK18
            -- region 16 (extra.go:28)
            refine Sx.wp_text [(0, .take), (1, .take), (2, .take)] rfl ?_
            refine Sx.st_take hT rfl rfl rfl rfl (Sx.x_move hT rfl rfl) ?_
            clear hT; intro a hT
            refine Sx.st_take hT rfl rfl rfl rfl ((fun w => Sx.x_add w hT rfl rfl rfl (Sx.wrap64 (by omega)))) ?_
            clear hT; intro a hT
            refine Sx.st_take hT rfl rfl rfl rfl (Sx.x_assign hT rfl rfl) ?_
            clear hT; intro a hT
            replace hT := hT.keep [8, 96, 9, 75, 57, 5, 0, 27, 6, 18, 15, 3, 1] rfl
            refine Sx.ser_nil ?_
            refine Sx.then_normal ?_
            exact ⟨(i + 1, L, ad1, c1, M, ad2, c2), ⟨by show i + 1 ≤ _; omega, by show L.map Fr.p = _; rw [hLp, adds_snoc ho, if_neg hk1], by show M.map Fr.p = _; rw [hMp, show l9.length - (i + 1) = l9.length - 1 - i from by omega, adds_drop ho2, if_neg hk2, show l9.length - 1 - i + 1 = l9.length - i from by omega], by show List.length L ≤ i + 1; omega, by show List.length M ≤ i + 1; omega⟩, (hT.keep [8, 5, 0, 27, 6, 18, 15, 3, 1] rfl), (H.keep [0, 1, 2, 3, 4, 5, 6] rfl rfl), by show _ - (i + 1) < _ - i; omega⟩
      · try simp only [decide_eq_true_eq, decide_eq_false_iff_not, Bool.not_eq_true', Bool.not_eq_false', Bool.not_eq_true, Bool.not_eq_false, Bool.and_eq_true, Bool.or_eq_false_iff, beq_iff_eq, bne_iff_ne, Int.not_lt, Int.not_le, ne_eq] at hc17
        have hil : i = l9.length := by omega
        rw [hil, List.take_length] at hLp
        rw [hil, Nat.sub_self, List.drop_zero, fold_rev hok] at hMp
        have hLM : M.map Fr.p = L.map Fr.p := hMp.trans hLp.symm
        have hLMl : M.length = L.length := by have := congrArg List.length hLM; simpa using this
        have hHl : Held (L.map Fr.p) := by rw [hLp]; exact held_fold held_nil
        have hHm9 : Held (M.map Fr.p) := by rw [hLM]; exact hHl
        have hLe : (M ≠ []) = (L ≠ []) := by rw [Ne, Ne, ← List.length_eq_zero_iff, ← List.length_eq_zero_iff, hLMl]
        refine wp_exit ?_
        refine Sx.then_exit ?_
        refine Sx.then_exit ?_
        refine Sx.block_exit ?_
        refine Sx.then_normal (hK13 _ _ ?_)
        clear hK13
        refine wp_seq_k fun K31 hK31 => ?_
        -- region 22 (extra.go:37)
        refine Sx.wp_text [(0, .take), (1, .run), (2, .take), (3, .take), (4, .take), (5, .run), (6, .run), (7, .take)] rfl ?_
        refine Sx.st_take hT rfl rfl rfl rfl (Sx.x_move hT rfl rfl) ?_
        clear hT; intro a hT
        refine Sx.st_call hT rfl rfl rfl rfl rfl Try.can26 rfl (Least_calls L (H.blk 0 rfl) ((H.row 1 rfl).ssn rfl)) ?_
        rintro _ w13 ⟨rfl, E⟩
        refine ⟨_, rfl, ?_⟩
        clear hT; intro a hT
        replace H := H.pure E; clear E
        refine Sx.st_take hT rfl rfl rfl rfl (Sx.x_move hT rfl rfl) ?_
        clear hT; intro a hT
        refine Sx.st_take hT rfl rfl rfl rfl (Sx.x_extractL hT rfl rfl rfl) ?_
        clear hT; intro a hT
        refine Sx.st_take hT rfl rfl rfl rfl (Sx.x_extractL hT rfl rfl rfl) ?_
        clear hT; intro a hT
        refine Sx.st_eff hT rfl rfl rfl rfl (Sx.y_alloc hT rfl Try.ti28 rfl _) ?_
        clear hT; rintro _ w14 ⟨b2, rfl, N⟩ a hT
        replace H := H.new N; clear N
        refine Sx.st_act hT rfl rfl rfl (Sx.y_storeS hT rfl Try.ti28 rfl rfl rfl rfl rfl (H.blk 0 rfl) rfl) ?_
        rintro w15 ⟨hb, E, _⟩
        replace H := H.setB 0 rfl hb E rfl; clear hb E
        refine Sx.st_take hT rfl rfl rfl rfl (Sx.x_assign hT rfl rfl) ?_
        clear hT; intro a hT
        replace hT := hT.keep [11, 10, 57, 8, 5, 0, 27, 6, 18, 15, 3, 1] rfl
        refine Sx.ser_nil ?_
        refine Sx.then_normal (hK31 _ _ ?_)
        clear hK31
        refine wp_seq_k fun K32 hK32 => ?_
        -- region 23 (extra.go:38)
        refine Sx.wp_text [(0, .take), (1, .run), (2, .take), (3, .take), (4, .take), (5, .run), (6, .run), (7, .take)] rfl ?_
        refine Sx.st_take hT rfl rfl rfl rfl (Sx.x_move hT rfl rfl) ?_
        clear hT; intro a hT
        refine Sx.st_call hT rfl rfl rfl rfl rfl Try.can26 rfl (Least_calls M (H.blk 4 rfl) ((H.row 5 rfl).ssn rfl)) ?_
        rintro _ w16 ⟨rfl, E⟩
        refine ⟨_, rfl, ?_⟩
        clear hT; intro a hT
        replace H := H.pure E; clear E
        refine Sx.st_take hT rfl rfl rfl rfl (Sx.x_move hT rfl rfl) ?_
        clear hT; intro a hT
        refine Sx.st_take hT rfl rfl rfl rfl (Sx.x_extractL hT rfl rfl rfl) ?_
        clear hT; intro a hT
        refine Sx.st_take hT rfl rfl rfl rfl (Sx.x_extractL hT rfl rfl rfl) ?_
        clear hT; intro a hT
        refine Sx.st_eff hT rfl rfl rfl rfl (Sx.y_alloc hT rfl Try.ti28 rfl _) ?_
        clear hT; rintro _ w17 ⟨b3, rfl, N⟩ a hT
        replace H := H.new N; clear N
        refine Sx.st_act hT rfl rfl rfl (Sx.y_storeS hT rfl Try.ti28 rfl rfl rfl rfl rfl (H.blk 0 rfl) rfl) ?_
        rintro w18 ⟨hb, E, _⟩
        replace H := H.setB 0 rfl hb E rfl; clear hb E
        refine Sx.st_take hT rfl rfl rfl rfl (Sx.x_assign hT rfl rfl) ?_
        clear hT; intro a hT
        replace hT := hT.keep [13, 12, 11, 10, 57, 8, 5, 0, 27, 6, 18, 15, 3, 1] rfl
        refine Sx.ser_nil ?_
        refine Sx.then_normal (hK32 _ _ ?_)
        clear hK32
        refine wp_seq_k fun K33 hK33 => ?_
        refine wp_seq_k fun K34 hK34 => ?_
        -- region 24 (extra.go:39)
        refine Sx.wp_text [(0, .take), (1, .run), (2, .take), (3, .run), (4, .take), (5, .take), (6, .take), (7, .run), (8, .take), (9, .run), (10, .run), (11, .take), (12, .take), (13, .take), (14, .run), (15, .run), (16, .take), (17, .take), (18, .take), (19, .take), (20, .take), (21, .take), (22, .take)] rfl ?_
        refine Sx.st_take hT rfl rfl rfl rfl (Sx.x_move hT rfl rfl) ?_
        clear hT; intro a hT
        refine Sx.st_call hT rfl rfl rfl rfl rfl Try.can15 rfl (Len_calls L (H.blk 2 rfl)) ?_
        rintro _ w19 ⟨rfl, E⟩
        refine ⟨_, rfl, ?_⟩
        clear hT; intro a hT
        replace H := H.pure E; clear E
        refine Sx.st_take hT rfl rfl rfl rfl (Sx.x_move hT rfl rfl) ?_
        clear hT; intro a hT
        refine Sx.st_call hT rfl rfl rfl rfl rfl Try.can15 rfl (Len_calls M (H.blk 5 rfl)) ?_
        rintro _ w20 ⟨rfl, E⟩
        refine ⟨_, rfl, ?_⟩
        clear hT; intro a hT
        replace H := H.pure E; clear E
        refine Sx.st_take hT rfl rfl rfl rfl ((fun w => Sx.x_ne w hT rfl rfl rfl)) ?_
        clear hT; intro a hT
        refine Sx.st_take hT rfl rfl rfl rfl (Sx.x_move hT rfl rfl) ?_
        clear hT; intro a hT
        -- guard (24, 5)
        refine Sx.Sl.two hT 112 rfl (fun hc35 hT => ?_) (fun hc35 hT => ?_)
        · exfalso
          try simp only [decide_eq_true_eq, decide_eq_false_iff_not, Bool.not_eq_true', Bool.not_eq_false', Bool.not_eq_true, Bool.not_eq_false, Bool.and_eq_true, Bool.or_eq_false_iff, beq_iff_eq, bne_iff_ne, Int.not_lt, Int.not_le, ne_eq] at hc35
          first | (simp at hc35; done) | (simp at hc35; omega) | omega | (revert hc35; decide +kernel)
        · try simp only [decide_eq_true_eq, decide_eq_false_iff_not, Bool.not_eq_true', Bool.not_eq_false', Bool.not_eq_true, Bool.not_eq_false, Bool.and_eq_true, Bool.or_eq_false_iff, beq_iff_eq, bne_iff_ne, Int.not_lt, Int.not_le, ne_eq] at hc35
          refine Sx.st_take hT rfl rfl rfl rfl (Sx.x_move hT rfl rfl) ?_
          clear hT; intro a hT
          refine Sx.st_call hT rfl rfl rfl rfl rfl Try.can28 rfl (Held_calls L (H.blk 2 rfl) ((H.row 3 rfl).ssn rfl) (held_fam hHl (H.fam 4 rfl)) (by omega)) ?_
          rintro _ w21 ⟨adx1, cx1, X1, rfl, K, hX1⟩
          refine ⟨_, rfl, ?_⟩
          clear hT; intro a hT
          replace H := H.more K rfl; clear K
          refine Sx.st_take hT rfl rfl rfl rfl (Sx.x_move hT rfl rfl) ?_
          clear hT; intro a hT
          refine Sx.st_call hT rfl rfl rfl rfl rfl Try.can28 rfl (Held_calls M (H.blk 7 rfl) ((H.row 8 rfl).ssn rfl) (held_fam hHm9 (H.fam 9 rfl)) (by omega)) ?_
          rintro _ w22 ⟨adx2, cx2, X2, rfl, K, hX2⟩
          refine ⟨_, rfl, ?_⟩
          clear hT; intro a hT
          replace H := H.more K rfl; clear K
          refine Sx.st_call hT rfl rfl rfl rfl rfl Try.can27 rfl (Fragments_calls X1 X2 ((H.row 2 rfl).ssn rfl) ((H.row 0 rfl).ssn rfl) (fun x hx => ⟨fam_fr (H.fam 3 rfl) x hx, by have h9 := (held_fam (L := X1) (by rw [hX1]; exact hHl) (H.fam 3 rfl) x hx).2.2; omega⟩) (fam_fr (H.fam 1 rfl)) (by have := congrArg List.length hX1; simp at this; omega)) ?_
          rintro _ w23 ⟨rfl, E⟩
          refine ⟨_, rfl, ?_⟩
          clear hT; intro a hT
          replace H := H.pure E; clear E
          rw [decide_eq_true (show List.map Fr.p X1 = List.map Fr.p X2 from hX1.trans (hLM.symm.trans hX2.symm))] at hT
          refine Sx.st_take hT rfl rfl rfl rfl (Sx.x_not hT rfl rfl) ?_
          clear hT; intro a hT
          refine Sx.st_take hT rfl rfl rfl rfl (Sx.x_pick_f hT rfl rfl rfl) ?_
          clear hT; intro a hT
          refine Sx.st_take hT rfl rfl rfl rfl (Sx.x_move hT rfl rfl) ?_
          clear hT; intro a hT
          -- guard (24, 13)
          refine Sx.Sl.two hT 120 rfl (fun hc36 hT => ?_) (fun hc36 hT => ?_)
          · exfalso
            try simp only [decide_eq_true_eq, decide_eq_false_iff_not, Bool.not_eq_true', Bool.not_eq_false', Bool.not_eq_true, Bool.not_eq_false, Bool.and_eq_true, Bool.or_eq_false_iff, beq_iff_eq, bne_iff_ne, Int.not_lt, Int.not_le, ne_eq] at hc36
            simp at hc36
          · try simp only [decide_eq_true_eq, decide_eq_false_iff_not, Bool.not_eq_true', Bool.not_eq_false', Bool.not_eq_true, Bool.not_eq_false, Bool.and_eq_true, Bool.or_eq_false_iff, beq_iff_eq, bne_iff_ne, Int.not_lt, Int.not_le, ne_eq] at hc36
            refine Sx.st_run hT rfl rfl rfl rfl (Sx.y_loadS hT rfl Try.underlying28 Try.ti28 rfl ((H.blk 5 rfl).seg (k := 3) rfl) (by rfl)) ?_
            clear hT; intro a hT
            refine Sx.st_run hT rfl rfl rfl rfl (Sx.y_loadS hT rfl Try.underlying28 Try.ti28 rfl ((H.blk 4 rfl).seg (k := 3) rfl) (by rfl)) ?_
            clear hT; intro a hT
            refine Sx.st_take hT rfl rfl rfl rfl (Sx.x_neS hT rfl (by kernel_rfl) (Try.eq28 _ _ _ _ _ _) rfl rfl rfl) ?_
            clear hT; intro a hT
            refine Sx.st_take hT rfl rfl rfl rfl (Sx.x_pick_f hT rfl rfl rfl) ?_
            clear hT; intro a hT
            refine Sx.st_take hT rfl rfl rfl rfl (Sx.x_move hT rfl rfl) ?_
            clear hT; intro a hT
            -- guard (24, 18)
            refine Sx.Sl.two hT 125 rfl (fun hc37 hT => ?_) (fun hc37 hT => ?_)
            · exfalso
              try simp only [decide_eq_true_eq, decide_eq_false_iff_not, Bool.not_eq_true', Bool.not_eq_false', Bool.not_eq_true, Bool.not_eq_false, Bool.and_eq_true, Bool.or_eq_false_iff, beq_iff_eq, bne_iff_ne, Int.not_lt, Int.not_le, ne_eq] at hc37
              simp [hLM] at hc37
            · try simp only [decide_eq_true_eq, decide_eq_false_iff_not, Bool.not_eq_true', Bool.not_eq_false', Bool.not_eq_true, Bool.not_eq_false, Bool.and_eq_true, Bool.or_eq_false_iff, beq_iff_eq, bne_iff_ne, Int.not_lt, Int.not_le, ne_eq] at hc37
              refine Sx.st_take hT rfl rfl rfl rfl (Sx.x_move hT rfl rfl) ?_
              clear hT; intro a hT
              refine Sx.st_take hT rfl rfl rfl rfl (Sx.x_move hT rfl rfl) ?_
              clear hT; intro a hT
              refine Sx.st_take hT rfl rfl rfl rfl (Sx.x_neb hT rfl Try.underlying4 rfl rfl) ?_
              clear hT; intro a hT
              refine Sx.st_take hT rfl rfl rfl rfl (Sx.x_pick_f hT rfl rfl rfl) ?_
              clear hT; intro a hT
              replace hT := hT.keep [129, 13, 12, 11, 10, 57, 8, 5, 0, 27, 6, 18, 15, 3, 1] rfl
              refine Sx.ser_nil ?_
              refine Sx.then_normal (hK34 _ _ ?_)
              clear hK34
              -- cond 8
              refine Sx.wp_if hT rfl (fun hc38 => ?_) (fun hc38 => ?_)
              · exfalso
                try simp only [decide_eq_true_eq, decide_eq_false_iff_not, Bool.not_eq_true', Bool.not_eq_false', Bool.not_eq_true, Bool.not_eq_false, Bool.and_eq_true, Bool.or_eq_false_iff, beq_iff_eq, bne_iff_ne, Int.not_lt, Int.not_le, ne_eq] at hc38
                simp [hLe] at hc38
              · try simp only [decide_eq_true_eq, decide_eq_false_iff_not, Bool.not_eq_true', Bool.not_eq_false', Bool.not_eq_true, Bool.not_eq_false, Bool.and_eq_true, Bool.or_eq_false_iff, beq_iff_eq, bne_iff_ne, Int.not_lt, Int.not_le, ne_eq] at hc38
                refine wp_skip ?_
                refine Sx.then_normal (hK33 _ _ ?_)
                clear hK33
                refine wp_seq_k fun K39 hK39 => ?_
                -- region 26 (extra.go:42)
                refine Sx.wp_drawsT (fun u => Sx.Ext (Sx.No) u) (.node [(0, .run), (1, .take), (2, .take), (5, .take)] (.node [(3, .run)] (.leaf [(4, .run), (6, .run), (7, .run), (8, .run), (9, .take), (10, .take), (11, .take), (13, .take), (12, .run), (14, .run), (15, .run), (16, .take), (17, .take)]) (.leaf [(6, .run), (4, .run), (7, .run), (8, .run), (9, .take), (10, .take), (11, .take), (13, .take), (12, .run), (14, .run), (15, .run), (16, .take), (17, .take)])) (.leaf [(6, .run), (3, .run), (4, .run), (7, .run), (8, .run), (9, .take), (10, .take), (11, .take), (13, .take), (12, .run), (14, .run), (15, .run), (16, .take), (17, .take)])) (by kernel_rfl) (by kernel_rfl) (fun u E _ => ?_)
                refine Sx.tser_node ?_
                replace H := H.pure E; clear E
                refine Sx.st_call hT rfl rfl rfl rfl rfl Try.can7 rfl (first_calls _) ?_
                rintro _ w24 ⟨rfl, E⟩
                refine ⟨_, rfl, ?_⟩
                clear hT; intro a hT
                replace H := H.pure E; clear E
                refine Sx.st_take hT rfl rfl rfl rfl (Sx.x_move hT rfl rfl) ?_
                clear hT; intro a hT
                refine Sx.st_take hT rfl rfl rfl rfl (Sx.x_move hT rfl rfl) ?_
                clear hT; intro a hT
                refine Sx.st_take hT rfl rfl rfl rfl (Sx.x_move hT rfl rfl) ?_
                clear hT; intro a hT
                refine Sx.ser_forkT ?_ ?_
                · skip
                  refine Sx.tser_node ?_
                  refine Sx.st_run hT rfl rfl rfl rfl (Sx.y_loadS hT rfl Try.underlying28 Try.ti28 rfl ((H.blk 12 rfl).seg (k := 3) rfl) (by rfl)) ?_
                  clear hT; intro a hT
                  refine Sx.ser_forkT ?_ ?_
                  · skip
                    refine Sx.tser_leaf ?_
                    refine Sx.st_call hT rfl rfl rfl rfl rfl Try.can13 rfl (Upto_calls at_ (H.pre [6, 7, 8] rfl rfl) hHl (by omega)) ?_
                    rintro _ w25 ⟨adu1, cu1, E1, ade1, ce1, L2, rfl, K, hE1, hq1⟩
                    refine ⟨_, rfl, ?_⟩
                    clear hT; intro a hT
                    replace H := H.back [6, 7, 8] [0, 1, 2, 3, 4, 5, 9, 10, 11, 12] rfl rfl rfl K rfl; clear K
                    have hHl2 : Held (L2.map Fr.p) := by rw [hq1]; exact held_upto hHl _
                    have hul1 := (upto_len (L.map Fr.p) at_).2
                    rw [← hq1, List.length_map, List.length_map] at hul1
                    refine Sx.st_run hT rfl rfl rfl rfl (Sx.y_loadS hT rfl Try.underlying28 Try.ti28 rfl ((H.blk 14 rfl).seg (k := 3) rfl) (by rfl)) ?_
                    clear hT; intro a hT
                    refine Sx.st_call hT rfl rfl rfl rfl rfl Try.can13 rfl (Upto_calls at_ (H.pre [11, 12, 13] rfl rfl) hHm9 (by omega)) ?_
                    rintro _ w26 ⟨adu2, cu2, E2, ade2, ce2, M2, rfl, K, hE2, hq2⟩
                    refine ⟨_, rfl, ?_⟩
                    clear hT; intro a hT
                    replace H := H.back [11, 12, 13] [0, 1, 2, 3, 4, 5, 6, 7, 8, 9, 10, 14] rfl rfl rfl K rfl; clear K
                    have hHm2 : Held (M2.map Fr.p) := by rw [hq2]; exact held_upto hHm9 _
                    have hul2 := (upto_len (M.map Fr.p) at_).2
                    rw [← hq2, List.length_map, List.length_map] at hul2
                    refine Sx.st_call hT rfl rfl rfl rfl rfl Try.can22 rfl (Entries_calls E1 E2 ((H.row 8 rfl).ssn rfl) ((H.row 3 rfl).ssn rfl) (fun x hx => ⟨fam_en (H.fam 9 rfl) x hx, by have h9 := upto_wl hHl (by rw [List.length_map]; omega) at_ x.p (by rw [← hE1]; exact List.mem_map_of_mem hx); have h8 : x.ws.length ≤ 160000 := h9; omega⟩) (fam_en (H.fam 4 rfl)) (by have h9 := congrArg List.length hE1; have h8 := (grp_all hHl (cntS at_ (L.map Fr.p)) (cntS_le _ _)).len; have h7 := cntS_le at_ (L.map Fr.p); unfold uptoE at h9; rw [List.length_map, List.length_map] at h9; rw [List.length_map] at h7; omega)) ?_
                    rintro _ w27 ⟨rfl, E⟩
                    refine ⟨_, rfl, ?_⟩
                    clear hT; intro a hT
                    replace H := H.pure E; clear E
                    rw [decide_eq_true (show List.map En.p E1 = List.map En.p E2 from hE1.trans ((congrArg (fun P => uptoE P at_) hLM.symm).trans hE2.symm))] at hT
                    refine Sx.st_take hT rfl rfl rfl rfl (Sx.x_pick_t hT rfl rfl rfl) ?_
                    clear hT; intro a hT
                    refine Sx.st_take hT rfl rfl rfl rfl (Sx.x_move hT rfl rfl) ?_
                    clear hT; intro a hT
                    -- guard (26, 10)
                    refine Sx.Sl.two hT 140 rfl (fun hc40 hT => ?_) (fun hc40 hT => ?_)
                    · try simp only [decide_eq_true_eq, decide_eq_false_iff_not, Bool.not_eq_true', Bool.not_eq_false', Bool.not_eq_true, Bool.not_eq_false, Bool.and_eq_true, Bool.or_eq_false_iff, beq_iff_eq, bne_iff_ne, Int.not_lt, Int.not_le, ne_eq] at hc40
                      refine Sx.st_take hT rfl rfl rfl rfl (Sx.x_move hT rfl rfl) ?_
                      clear hT; intro a hT
                      refine Sx.st_take hT rfl rfl rfl rfl (Sx.x_move hT rfl rfl) ?_
                      clear hT; intro a hT
                      refine Sx.st_call hT rfl rfl rfl rfl rfl Try.can28 rfl (Held_calls L2 (H.blk 5 rfl) ((H.row 6 rfl).ssn rfl) (held_fam hHl2 (H.fam 7 rfl)) (by omega)) ?_
                      rintro _ w28 ⟨adx3, cx3, X3, rfl, K, hX3⟩
                      refine ⟨_, rfl, ?_⟩
                      clear hT; intro a hT
                      replace H := H.more K rfl; clear K
                      refine Sx.st_call hT rfl rfl rfl rfl rfl Try.can28 rfl (Held_calls M2 (H.blk 2 rfl) ((H.row 3 rfl).ssn rfl) (held_fam hHm2 (H.fam 4 rfl)) (by omega)) ?_
                      rintro _ w29 ⟨adx4, cx4, X4, rfl, K, hX4⟩
                      refine ⟨_, rfl, ?_⟩
                      clear hT; intro a hT
                      replace H := H.more K rfl; clear K
                      refine Sx.st_call hT rfl rfl rfl rfl rfl Try.can27 rfl (Fragments_calls X3 X4 ((H.row 2 rfl).ssn rfl) ((H.row 0 rfl).ssn rfl) (fun x hx => ⟨fam_fr (H.fam 3 rfl) x hx, by have h9 := (held_fam (L := X3) (by rw [hX3]; exact hHl2) (H.fam 3 rfl) x hx).2.2; omega⟩) (fam_fr (H.fam 1 rfl)) (by have := congrArg List.length hX3; simp at this; omega)) ?_
                      rintro _ w30 ⟨rfl, E⟩
                      refine ⟨_, rfl, ?_⟩
                      clear hT; intro a hT
                      replace H := H.pure E; clear E
                      rw [decide_eq_true (show List.map Fr.p X3 = List.map Fr.p X4 from hX3.trans (hq1.trans ((congrArg (fun P => uptoL P at_) hLM.symm).trans (hq2.symm.trans hX4.symm))))] at hT
                      refine Sx.st_take hT rfl rfl rfl rfl (Sx.x_pick_t hT rfl rfl rfl) ?_
                      clear hT; intro a hT
                      refine Sx.st_take hT rfl rfl rfl rfl (Sx.x_assign hT rfl rfl) ?_
                      clear hT; intro a hT
                      replace hT := hT.keep [4, 129, 13, 12, 11, 10, 57, 8, 5, 0, 27, 6, 18, 15, 3, 1] rfl
                      refine Sx.ser_calm ?_
                      refine Sx.then_normal (hK39 _ _ ?_)
                      clear hK39
                      refine wp_ret ?_
                      refine Sx.done1 (fn := Try.f6) hT rfl (.tmp (hT.get 4 _ rfl)) ?_
                      exact ⟨ret_b (by simp), H.ext⟩
                    · exfalso
                      try simp only [decide_eq_true_eq, decide_eq_false_iff_not, Bool.not_eq_true', Bool.not_eq_false', Bool.not_eq_true, Bool.not_eq_false, Bool.and_eq_true, Bool.or_eq_false_iff, beq_iff_eq, bne_iff_ne, Int.not_lt, Int.not_le, ne_eq] at hc40
                      simp at hc40
                  · skip
                    refine Sx.tser_leaf ?_
                    refine Sx.st_run hT rfl rfl rfl rfl (Sx.y_loadS hT rfl Try.underlying28 Try.ti28 rfl ((H.blk 12 rfl).seg (k := 3) rfl) (by rfl)) ?_
                    clear hT; intro a hT
                    refine Sx.st_call hT rfl rfl rfl rfl rfl Try.can13 rfl (Upto_calls at_ (H.pre [6, 7, 8] rfl rfl) hHl (by omega)) ?_
                    rintro _ w31 ⟨adu1, cu1, E1, ade1, ce1, L2, rfl, K, hE1, hq1⟩
                    refine ⟨_, rfl, ?_⟩
                    clear hT; intro a hT
                    replace H := H.back [6, 7, 8] [0, 1, 2, 3, 4, 5, 9, 10, 11, 12] rfl rfl rfl K rfl; clear K
                    have hHl2 : Held (L2.map Fr.p) := by rw [hq1]; exact held_upto hHl _
                    have hul1 := (upto_len (L.map Fr.p) at_).2
                    rw [← hq1, List.length_map, List.length_map] at hul1
                    refine Sx.st_call hT rfl rfl rfl rfl rfl Try.can13 rfl (Upto_calls at_ (H.pre [11, 12, 13] rfl rfl) hHm9 (by omega)) ?_
                    rintro _ w32 ⟨adu2, cu2, E2, ade2, ce2, M2, rfl, K, hE2, hq2⟩
                    refine ⟨_, rfl, ?_⟩
                    clear hT; intro a hT
                    replace H := H.back [11, 12, 13] [0, 1, 2, 3, 4, 5, 6, 7, 8, 9, 10, 14] rfl rfl rfl K rfl; clear K
                    have hHm2 : Held (M2.map Fr.p) := by rw [hq2]; exact held_upto hHm9 _
                    have hul2 := (upto_len (M.map Fr.p) at_).2
                    rw [← hq2, List.length_map, List.length_map] at hul2
                    refine Sx.st_call hT rfl rfl rfl rfl rfl Try.can22 rfl (Entries_calls E1 E2 ((H.row 8 rfl).ssn rfl) ((H.row 3 rfl).ssn rfl) (fun x hx => ⟨fam_en (H.fam 9 rfl) x hx, by have h9 := upto_wl hHl (by rw [List.length_map]; omega) at_ x.p (by rw [← hE1]; exact List.mem_map_of_mem hx); have h8 : x.ws.length ≤ 160000 := h9; omega⟩) (fam_en (H.fam 4 rfl)) (by have h9 := congrArg List.length hE1; have h8 := (grp_all hHl (cntS at_ (L.map Fr.p)) (cntS_le _ _)).len; have h7 := cntS_le at_ (L.map Fr.p); unfold uptoE at h9; rw [List.length_map, List.length_map] at h9; rw [List.length_map] at h7; omega)) ?_
                    rintro _ w33 ⟨rfl, E⟩
                    refine ⟨_, rfl, ?_⟩
                    clear hT; intro a hT
                    replace H := H.pure E; clear E
                    rw [decide_eq_true (show List.map En.p E1 = List.map En.p E2 from hE1.trans ((congrArg (fun P => uptoE P at_) hLM.symm).trans hE2.symm))] at hT
                    refine Sx.st_take hT rfl rfl rfl rfl (Sx.x_pick_t hT rfl rfl rfl) ?_
                    clear hT; intro a hT
                    refine Sx.st_take hT rfl rfl rfl rfl (Sx.x_move hT rfl rfl) ?_
                    clear hT; intro a hT
                    -- guard (26, 10)
                    refine Sx.Sl.two hT 140 rfl (fun hc41 hT => ?_) (fun hc41 hT => ?_)
                    · try simp only [decide_eq_true_eq, decide_eq_false_iff_not, Bool.not_eq_true', Bool.not_eq_false', Bool.not_eq_true, Bool.not_eq_false, Bool.and_eq_true, Bool.or_eq_false_iff, beq_iff_eq, bne_iff_ne, Int.not_lt, Int.not_le, ne_eq] at hc41
                      refine Sx.st_take hT rfl rfl rfl rfl (Sx.x_move hT rfl rfl) ?_
                      clear hT; intro a hT
                      refine Sx.st_take hT rfl rfl rfl rfl (Sx.x_move hT rfl rfl) ?_
                      clear hT; intro a hT
                      refine Sx.st_call hT rfl rfl rfl rfl rfl Try.can28 rfl (Held_calls L2 (H.blk 5 rfl) ((H.row 6 rfl).ssn rfl) (held_fam hHl2 (H.fam 7 rfl)) (by omega)) ?_
                      rintro _ w34 ⟨adx3, cx3, X3, rfl, K, hX3⟩
                      refine ⟨_, rfl, ?_⟩
                      clear hT; intro a hT
                      replace H := H.more K rfl; clear K
                      refine Sx.st_call hT rfl rfl rfl rfl rfl Try.can28 rfl (Held_calls M2 (H.blk 2 rfl) ((H.row 3 rfl).ssn rfl) (held_fam hHm2 (H.fam 4 rfl)) (by omega)) ?_
                      rintro _ w35 ⟨adx4, cx4, X4, rfl, K, hX4⟩
                      refine ⟨_, rfl, ?_⟩
                      clear hT; intro a hT
                      replace H := H.more K rfl; clear K
                      refine Sx.st_call hT rfl rfl rfl rfl rfl Try.can27 rfl (Fragments_calls X3 X4 ((H.row 2 rfl).ssn rfl) ((H.row 0 rfl).ssn rfl) (fun x hx => ⟨fam_fr (H.fam 3 rfl) x hx, by have h9 := (held_fam (L := X3) (by rw [hX3]; exact hHl2) (H.fam 3 rfl) x hx).2.2; omega⟩) (fam_fr (H.fam 1 rfl)) (by have := congrArg List.length hX3; simp at this; omega)) ?_
                      rintro _ w36 ⟨rfl, E⟩
                      refine ⟨_, rfl, ?_⟩
                      clear hT; intro a hT
                      replace H := H.pure E; clear E
                      rw [decide_eq_true (show List.map Fr.p X3 = List.map Fr.p X4 from hX3.trans (hq1.trans ((congrArg (fun P => uptoL P at_) hLM.symm).trans (hq2.symm.trans hX4.symm))))] at hT
                      refine Sx.st_take hT rfl rfl rfl rfl (Sx.x_pick_t hT rfl rfl rfl) ?_
                      clear hT; intro a hT
                      refine Sx.st_take hT rfl rfl rfl rfl (Sx.x_assign hT rfl rfl) ?_
                      clear hT; intro a hT
                      replace hT := hT.keep [4, 129, 13, 12, 11, 10, 57, 8, 5, 0, 27, 6, 18, 15, 3, 1] rfl
                      refine Sx.ser_calm ?_
                      refine Sx.then_normal (hK39 _ _ ?_)
                      clear hK39
                      refine wp_ret ?_
                      refine Sx.done1 (fn := Try.f6) hT rfl (.tmp (hT.get 4 _ rfl)) ?_
                      exact ⟨ret_b (by simp), H.ext⟩
                    · exfalso
                      try simp only [decide_eq_true_eq, decide_eq_false_iff_not, Bool.not_eq_true', Bool.not_eq_false', Bool.not_eq_true, Bool.not_eq_false, Bool.and_eq_true, Bool.or_eq_false_iff, beq_iff_eq, bne_iff_ne, Int.not_lt, Int.not_le, ne_eq] at hc41
                      simp at hc41
                · skip
                  refine Sx.tser_leaf ?_
                  refine Sx.st_run hT rfl rfl rfl rfl (Sx.y_loadS hT rfl Try.underlying28 Try.ti28 rfl ((H.blk 12 rfl).seg (k := 3) rfl) (by rfl)) ?_
                  clear hT; intro a hT
                  refine Sx.st_run hT rfl rfl rfl rfl (Sx.y_loadS hT rfl Try.underlying28 Try.ti28 rfl ((H.blk 12 rfl).seg (k := 3) rfl) (by rfl)) ?_
                  clear hT; intro a hT
                  refine Sx.st_call hT rfl rfl rfl rfl rfl Try.can13 rfl (Upto_calls at_ (H.pre [6, 7, 8] rfl rfl) hHl (by omega)) ?_
                  rintro _ w37 ⟨adu1, cu1, E1, ade1, ce1, L2, rfl, K, hE1, hq1⟩
                  refine ⟨_, rfl, ?_⟩
                  clear hT; intro a hT
                  replace H := H.back [6, 7, 8] [0, 1, 2, 3, 4, 5, 9, 10, 11, 12] rfl rfl rfl K rfl; clear K
                  have hHl2 : Held (L2.map Fr.p) := by rw [hq1]; exact held_upto hHl _
                  have hul1 := (upto_len (L.map Fr.p) at_).2
                  rw [← hq1, List.length_map, List.length_map] at hul1
                  refine Sx.st_call hT rfl rfl rfl rfl rfl Try.can13 rfl (Upto_calls at_ (H.pre [11, 12, 13] rfl rfl) hHm9 (by omega)) ?_
                  rintro _ w38 ⟨adu2, cu2, E2, ade2, ce2, M2, rfl, K, hE2, hq2⟩
                  refine ⟨_, rfl, ?_⟩
                  clear hT; intro a hT
                  replace H := H.back [11, 12, 13] [0, 1, 2, 3, 4, 5, 6, 7, 8, 9, 10, 14] rfl rfl rfl K rfl; clear K
                  have hHm2 : Held (M2.map Fr.p) := by rw [hq2]; exact held_upto hHm9 _
                  have hul2 := (upto_len (M.map Fr.p) at_).2
                  rw [← hq2, List.length_map, List.length_map] at hul2
                  refine Sx.st_call hT rfl rfl rfl rfl rfl Try.can22 rfl (Entries_calls E1 E2 ((H.row 8 rfl).ssn rfl) ((H.row 3 rfl).ssn rfl) (fun x hx => ⟨fam_en (H.fam 9 rfl) x hx, by have h9 := upto_wl hHl (by rw [List.length_map]; omega) at_ x.p (by rw [← hE1]; exact List.mem_map_of_mem hx); have h8 : x.ws.length ≤ 160000 := h9; omega⟩) (fam_en (H.fam 4 rfl)) (by have h9 := congrArg List.length hE1; have h8 := (grp_all hHl (cntS at_ (L.map Fr.p)) (cntS_le _ _)).len; have h7 := cntS_le at_ (L.map Fr.p); unfold uptoE at h9; rw [List.length_map, List.length_map] at h9; rw [List.length_map] at h7; omega)) ?_
                  rintro _ w39 ⟨rfl, E⟩
                  refine ⟨_, rfl, ?_⟩
                  clear hT; intro a hT
                  replace H := H.pure E; clear E
                  rw [decide_eq_true (show List.map En.p E1 = List.map En.p E2 from hE1.trans ((congrArg (fun P => uptoE P at_) hLM.symm).trans hE2.symm))] at hT
                  refine Sx.st_take hT rfl rfl rfl rfl (Sx.x_pick_t hT rfl rfl rfl) ?_
                  clear hT; intro a hT
                  refine Sx.st_take hT rfl rfl rfl rfl (Sx.x_move hT rfl rfl) ?_
                  clear hT; intro a hT
                  -- guard (26, 10)
                  refine Sx.Sl.two hT 140 rfl (fun hc42 hT => ?_) (fun hc42 hT => ?_)
                  · try simp only [decide_eq_true_eq, decide_eq_false_iff_not, Bool.not_eq_true', Bool.not_eq_false', Bool.not_eq_true, Bool.not_eq_false, Bool.and_eq_true, Bool.or_eq_false_iff, beq_iff_eq, bne_iff_ne, Int.not_lt, Int.not_le, ne_eq] at hc42
                    refine Sx.st_take hT rfl rfl rfl rfl (Sx.x_move hT rfl rfl) ?_
                    clear hT; intro a hT
                    refine Sx.st_take hT rfl rfl rfl rfl (Sx.x_move hT rfl rfl) ?_
                    clear hT; intro a hT
                    refine Sx.st_call hT rfl rfl rfl rfl rfl Try.can28 rfl (Held_calls L2 (H.blk 5 rfl) ((H.row 6 rfl).ssn rfl) (held_fam hHl2 (H.fam 7 rfl)) (by omega)) ?_
                    rintro _ w40 ⟨adx3, cx3, X3, rfl, K, hX3⟩
                    refine ⟨_, rfl, ?_⟩
                    clear hT; intro a hT
                    replace H := H.more K rfl; clear K
                    refine Sx.st_call hT rfl rfl rfl rfl rfl Try.can28 rfl (Held_calls M2 (H.blk 2 rfl) ((H.row 3 rfl).ssn rfl) (held_fam hHm2 (H.fam 4 rfl)) (by omega)) ?_
                    rintro _ w41 ⟨adx4, cx4, X4, rfl, K, hX4⟩
                    refine ⟨_, rfl, ?_⟩
                    clear hT; intro a hT
                    replace H := H.more K rfl; clear K
                    refine Sx.st_call hT rfl rfl rfl rfl rfl Try.can27 rfl (Fragments_calls X3 X4 ((H.row 2 rfl).ssn rfl) ((H.row 0 rfl).ssn rfl) (fun x hx => ⟨fam_fr (H.fam 3 rfl) x hx, by have h9 := (held_fam (L := X3) (by rw [hX3]; exact hHl2) (H.fam 3 rfl) x hx).2.2; omega⟩) (fam_fr (H.fam 1 rfl)) (by have := congrArg List.length hX3; simp at this; omega)) ?_
                    rintro _ w42 ⟨rfl, E⟩
                    refine ⟨_, rfl, ?_⟩
                    clear hT; intro a hT
                    replace H := H.pure E; clear E
                    rw [decide_eq_true (show List.map Fr.p X3 = List.map Fr.p X4 from hX3.trans (hq1.trans ((congrArg (fun P => uptoL P at_) hLM.symm).trans (hq2.symm.trans hX4.symm))))] at hT
                    refine Sx.st_take hT rfl rfl rfl rfl (Sx.x_pick_t hT rfl rfl rfl) ?_
                    clear hT; intro a hT
                    refine Sx.st_take hT rfl rfl rfl rfl (Sx.x_assign hT rfl rfl) ?_
                    clear hT; intro a hT
                    replace hT := hT.keep [4, 129, 13, 12, 11, 10, 57, 8, 5, 0, 27, 6, 18, 15, 3, 1] rfl
                    refine Sx.ser_calm ?_
                    refine Sx.then_normal (hK39 _ _ ?_)
                    clear hK39
                    refine wp_ret ?_
                    refine Sx.done1 (fn := Try.f6) hT rfl (.tmp (hT.get 4 _ rfl)) ?_
                    exact ⟨ret_b (by simp), H.ext⟩
                  · exfalso
                    try simp only [decide_eq_true_eq, decide_eq_false_iff_not, Bool.not_eq_true', Bool.not_eq_false', Bool.not_eq_true, Bool.not_eq_false, Bool.and_eq_true, Bool.or_eq_false_iff, beq_iff_eq, bne_iff_ne, Int.not_lt, Int.not_le, ne_eq] at hc42
                    simp at hc42
    · clear hK11; intro hJK11
      refine wp_seq_k fun K43 hK43 => ?_
      -- region 8 (extra.go:21)
      refine Sx.wp_text [(0, .take)] rfl ?_
      refine Sx.st_take hT rfl rfl rfl rfl (Sx.x_assign hT rfl rfl) ?_
      clear hT; intro a hT
      replace hT := hT.keep [7, 27, 6, 5, 18, 15, 4, 3, 0, 1] rfl
      refine Sx.ser_nil ?_
      refine Sx.then_normal (hK43 _ _ ?_)
      clear hK43
      refine wp_block ?_
      -- loop 0
      refine Sx.wp_loopH (G := Nat × List Fr × Option Addr × Nat) (fun ⟨i, L, ad1, c1⟩ => [(7, .int .i64 (i : Int)), (0, .slice ad l.length c)]) (fun ⟨i, L, ad1, c1⟩ => [cB p [.slice ad1 (List.length L) c1] 68, cR 35 9 ad1 (L).length c1 ((L).flatMap Fr.cells), cF 50 4 Fr.rw (L)]) (fun ⟨i, L, ad1, c1⟩ => i ≤ l.length ∧ okA (addsO (l.take i)) ∧ L.map Fr.p = foldA [] (addsO (l.take i)) ∧ L.length ≤ i) (fun ⟨i, L, ad1, c1⟩ => l.length - i) (0, [], none, 0) (hT.keep [7, 0, 27, 6, 5, 18, 15, 4, 3, 1] rfl) (H.keep [3, 4, 5, 0, 1, 2, 6] rfl rfl) (⟨Nat.zero_le _, (by rw [List.take_zero]; exact okA_nil), (by rw [List.take_zero]; rfl), Nat.le_refl _⟩) ?_
      clear hT H
      rintro ⟨i, L, ad1, c1⟩ a w43 hJ hT H
      replace hT := hT.keep [7, 0, 27, 6, 5, 18, 15, 4, 3, 1] rfl
      replace H := H.keep [0, 1, 2, 3, 4, 5, 6] rfl rfl
      obtain ⟨hi, hoi, hLp, hLi⟩ := hJ
      have hHd : Held (L.map Fr.p) := by rw [hLp]; exact held_fold held_nil
      refine wp_seq_k fun K44 hK44 => ?_
      refine wp_seq_k fun K45 hK45 => ?_
      -- region 9 (extra.go:21)
      refine Sx.wp_text [(0, .take), (1, .take), (2, .take), (3, .take)] rfl ?_
      refine Sx.st_take hT rfl rfl rfl rfl (Sx.x_move hT rfl rfl) ?_
      clear hT; intro a hT
      refine Sx.st_take hT rfl rfl rfl rfl (Sx.x_move hT rfl rfl) ?_
      clear hT; intro a hT
      refine Sx.st_take hT rfl rfl rfl rfl (Sx.x_len_slice hT rfl rfl Try.underlying22 rfl) ?_
      clear hT; intro a hT
      refine Sx.st_take hT rfl rfl rfl rfl ((fun w => Sx.x_lt w hT rfl rfl rfl)) ?_
      clear hT; intro a hT
      replace hT := hT.keep [31, 7, 0, 27, 6, 5, 18, 15, 4, 3, 1] rfl
      refine Sx.ser_nil ?_
      refine Sx.then_normal (hK45 _ _ ?_)
      clear hK45
      -- cond 3
      refine Sx.wp_if hT rfl (fun hc46 => ?_) (fun hc46 => ?_)
      · try simp only [decide_eq_true_eq, decide_eq_false_iff_not, Bool.not_eq_true', Bool.not_eq_false', Bool.not_eq_true, Bool.not_eq_false, Bool.and_eq_true, Bool.or_eq_false_iff, beq_iff_eq, bne_iff_ne, Int.not_lt, Int.not_le, ne_eq] at hc46
        obtain ⟨o, ho⟩ : ∃ o, l[i]? = some o := ⟨_, List.getElem?_eq_getElem (by omega)⟩
        have hom := List.mem_of_getElem? ho
        obtain ⟨-, -, hon, -⟩ := hw o hom
        have how := hws o hom
        have RMx : Ro w No (fun u => Ss u o.f.ad Wt.cells 4 o.f.ws) := RM.mono fun u h => h o hom
        refine wp_skip ?_
        refine Sx.then_normal (hK44 _ _ ?_)
        clear hK44
        refine wp_seq_k fun K47 hK47 => ?_
        refine wp_block ?_
        refine wp_seq_k fun K48 hK48 => ?_
        -- region 11 (extra.go:22)
        refine Sx.wp_text [(0, .take), (1, .take), (2, .take), (3, .take), (4, .run), (5, .take), (6, .take), (7, .take), (8, .take), (9, .take), (10, .take), (11, .take), (12, .run), (13, .run), (14, .take), (15, .take)] rfl ?_
        refine Sx.st_take hT rfl rfl rfl rfl (Sx.x_move hT rfl rfl) ?_
        clear hT; intro a hT
        refine Sx.st_take hT rfl rfl rfl rfl (Sx.x_move hT rfl rfl) ?_
        clear hT; intro a hT
        refine Sx.st_take hT rfl rfl rfl rfl (Sx.x_index (k := i) hT rfl Try.underlying22 Try.ti37 (R.at H.ext).sv rfl rfl (by first | rfl | omega) (by omega)) ?_
        clear hT; intro a hT
        refine Sx.st_take hT rfl rfl rfl rfl (Sx.x_fieldAddr hT rfl Try.fa37_0 rfl) ?_
        clear hT; intro a hT
        refine Sx.st_run hT rfl rfl rfl rfl (Sx.x_load1 hT rfl Try.fl3 rfl (by first | exact ((H.blk 0 rfl).nth rfl) | exact ((H.blk 3 rfl).nth rfl) | exact ((H.blk 6 rfl).nth rfl) | exact ((R.at H.ext).cell (j := 0) Op.len ho rfl))) ?_
        clear hT; intro a hT
        refine Sx.st_take hT rfl rfl rfl rfl ((fun w => Sx.x_eq w hT rfl rfl rfl)) ?_
        clear hT; intro a hT
        refine Sx.st_take hT rfl rfl rfl rfl (Sx.x_move hT rfl rfl) ?_
        clear hT; intro a hT
        -- guard (11, 6)
        refine Sx.Sl.two hT 40 rfl (fun hc49 hT => ?_) (fun hc49 hT => ?_)
        · try simp only [decide_eq_true_eq, decide_eq_false_iff_not, Bool.not_eq_true', Bool.not_eq_false', Bool.not_eq_true, Bool.not_eq_false, Bool.and_eq_true, Bool.or_eq_false_iff, beq_iff_eq, bne_iff_ne, Int.not_lt, Int.not_le, ne_eq] at hc49
          have hk1 : o.k = 1 := hc49
          refine Sx.st_take hT rfl rfl rfl rfl (Sx.x_move hT rfl rfl) ?_
          clear hT; intro a hT
          refine Sx.st_take hT rfl rfl rfl rfl (Sx.x_move hT rfl rfl) ?_
          clear hT; intro a hT
          refine Sx.st_take hT rfl rfl rfl rfl (Sx.x_move hT rfl rfl) ?_
          clear hT; intro a hT
          refine Sx.st_take hT rfl rfl rfl rfl (Sx.x_index (k := i) hT rfl Try.underlying22 Try.ti37 (R.at H.ext).sv rfl rfl (by first | rfl | omega) (by omega)) ?_
          clear hT; intro a hT
          refine Sx.st_take hT rfl rfl rfl rfl (Sx.x_fieldAddr hT rfl Try.fa37_2 rfl) ?_
          clear hT; intro a hT
          refine Sx.st_run hT rfl rfl rfl rfl (Sx.y_loadS hT rfl Try.underlying35 Try.ti35 rfl (by first | exact ((H.blk 0 rfl).seg (k := 9) rfl) | exact ((H.blk 3 rfl).seg (k := 9) rfl) | exact ((H.blk 6 rfl).seg (k := 9) rfl) | exact (((R.at H.ext).cs Op.len ho).seg (i := 2) (k := 9) rfl)) (by rfl)) ?_
          clear hT; intro a hT
          refine Sx.st_call hT rfl rfl rfl rfl rfl Try.can11 rfl (Add_calls o.f (H.pre [0, 1, 2] rfl rfl) (H.ro RMx [0, 1, 2] rfl) hon (by omega) hHd (by omega)) ?_
          rintro _ w44 ⟨ad9, c9, L1, rfl, K, hp1⟩
          refine ⟨_, rfl, ?_⟩
          clear hT; intro a hT
          replace H := H.back [0, 1, 2] [3, 4, 5, 6] rfl rfl rfl K rfl; clear K
          obtain ⟨z9, hz9⟩ : ∃ z, addE (L.map Fr.p) o.f.p = z := ⟨_, rfl⟩
          rw [hz9] at hT
          refine Sx.st_take hT rfl rfl rfl rfl ((fun w => Sx.x_ne w hT rfl rfl rfl)) ?_
          clear hT; intro a hT
          refine Sx.st_take hT rfl rfl rfl rfl (Sx.x_pick_t hT rfl rfl rfl) ?_
          clear hT; intro a hT
          replace hT := hT.keep [49, 31, 7, 0, 27, 6, 5, 18, 15, 4, 3, 1] rfl
          refine Sx.ser_nil ?_
          refine Sx.then_normal (hK48 _ _ ?_)
          clear hK48
          -- cond 4
          refine Sx.wp_if hT rfl (fun hc50 => ?_) (fun hc50 => ?_)
          · try simp only [decide_eq_true_eq, decide_eq_false_iff_not, Bool.not_eq_true', Bool.not_eq_false', Bool.not_eq_true, Bool.not_eq_false, Bool.and_eq_true, Bool.or_eq_false_iff, beq_iff_eq, bne_iff_ne, Int.not_lt, Int.not_le, ne_eq] at hc50
            refine wp_seq_k fun K51 hK51 => ?_
            -- region 12 (extra.go:23)
            refine Sx.wp_text [(0, .take), (1, .take), (2, .take), (3, .take)] rfl ?_
            refine Sx.st_take hT rfl rfl rfl rfl (Sx.x_move hT rfl rfl) ?_
            clear hT; intro a hT
            refine Sx.st_take hT rfl rfl rfl rfl (Sx.x_move hT rfl rfl) ?_
            clear hT; intro a hT
            refine Sx.st_take hT rfl rfl rfl rfl (Sx.x_slice_h hT rfl Try.underlying22 Try.ti37 rfl rfl rfl (by omega)) ?_
            clear hT; intro a hT
            refine Sx.st_take hT rfl rfl rfl rfl (Sx.x_assign hT rfl rfl) ?_
            clear hT; intro a hT
            replace hT := hT.keep [0, 49, 31, 7, 27, 6, 5, 18, 15, 4, 3, 1] rfl
            refine Sx.ser_nil ?_
            refine Sx.then_normal (hK51 _ _ ?_)
            clear hK51
            refine wp_exit ?_
            refine Sx.block_other rfl ?_
            refine Sx.then_exit ?_
            refine Sx.then_exit ?_
            refine Sx.block_exit ?_
            exact Sx.then_normal (hJK11 i _ _ ⟨by omega, hoi⟩ (hT.keep [0, 27, 6, 5, 18, 15, 4, 3, 1] rfl) (H.keep [3, 4, 5, 6] rfl rfl))
          · try simp only [decide_eq_true_eq, decide_eq_false_iff_not, Bool.not_eq_true', Bool.not_eq_false', Bool.not_eq_true, Bool.not_eq_false, Bool.and_eq_true, Bool.or_eq_false_iff, beq_iff_eq, bne_iff_ne, Int.not_lt, Int.not_le, ne_eq] at hc50
            have hz0 : z9 = 0 := by simpa using hc50
            refine wp_skip ?_
            refine Sx.block_normal ?_
            refine Sx.then_normal (hK47 _ _ ?_)
            clear hK47
            -- region 10 (extra.go:21)
            refine Sx.wp_text [(0, .take), (1, .take), (2, .take)] rfl ?_
            refine Sx.st_take hT rfl rfl rfl rfl (Sx.x_move hT rfl rfl) ?_
            clear hT; intro a hT
            refine Sx.st_take hT rfl rfl rfl rfl ((fun w => Sx.x_add w hT rfl rfl rfl (Sx.wrap64 (by omega)))) ?_
            clear hT; intro a hT
            refine Sx.st_take hT rfl rfl rfl rfl (Sx.x_assign hT rfl rfl) ?_
            clear hT; intro a hT
            replace hT := hT.keep [7, 49, 31, 0, 27, 6, 5, 18, 15, 4, 3, 1] rfl
            refine Sx.ser_nil ?_
            refine Sx.then_normal ?_
            have hok2 : okA (addsO (l.take (i + 1))) := by
              rw [adds_snoc ho, if_pos hk1]
              exact (okA_add hoi).1 (by rw [← hLp, hz9]; exact hz0)
            have hln1 := has_add (hz9.trans hz0)
            rw [← hp1, List.length_map, List.length_map] at hln1
            have hLp1 : L1.map Fr.p = foldA [] (addsO (l.take (i + 1))) := by rw [hp1, hLp, adds_snoc ho, if_pos hk1, foldA_snoc]
            exact ⟨(i + 1, L1, ad9, c9), ⟨by show i + 1 ≤ _; omega, hok2, hLp1, by show List.length L1 ≤ i + 1; omega⟩, (hT.keep [7, 0, 27, 6, 5, 18, 15, 4, 3, 1] rfl), (H.keep [0, 1, 2, 3, 4, 5, 6] rfl rfl), by show _ - (i + 1) < _ - i; omega⟩
        · try simp only [decide_eq_true_eq, decide_eq_false_iff_not, Bool.not_eq_true', Bool.not_eq_false', Bool.not_eq_true, Bool.not_eq_false, Bool.and_eq_true, Bool.or_eq_false_iff, beq_iff_eq, bne_iff_ne, Int.not_lt, Int.not_le, ne_eq] at hc49
          have hk1 : ¬ o.k = 1 := hc49
          refine Sx.st_skip hT rfl rfl rfl rfl ?_
          clear hT; intro a hT
          refine Sx.st_skip hT rfl rfl rfl rfl ?_
          clear hT; intro a hT
          refine Sx.st_skip hT rfl rfl rfl rfl ?_
          clear hT; intro a hT
          refine Sx.st_skip hT rfl rfl rfl rfl ?_
          clear hT; intro a hT
          refine Sx.st_skip hT rfl rfl rfl rfl ?_
          clear hT; intro a hT
          refine Sx.st_runskip hT rfl rfl rfl rfl ?_
          clear hT; intro a hT
          refine Sx.st_runskip hT rfl rfl rfl rfl ?_
          clear hT; intro a hT
          refine Sx.st_skip hT rfl rfl rfl rfl ?_
          clear hT; intro a hT
          refine Sx.st_take hT rfl rfl rfl rfl (Sx.x_pick_f hT rfl rfl rfl) ?_
          clear hT; intro a hT
          replace hT := hT.keep [49, 31, 7, 0, 27, 6, 5, 18, 15, 4, 3, 1] rfl
          refine Sx.ser_nil ?_
          refine Sx.then_normal (hK48 _ _ ?_)
          clear hK48
          refine Sx.wp_if hT rfl (fun h => by cases h) (fun _ => ?_)
          skip
          refine wp_skip ?_
          refine Sx.block_normal ?_
          refine Sx.then_normal (hK47 _ _ ?_)
          clear hK47
          -- region 10 (extra.go:21)
          refine Sx.wp_text [(0, .take), (1, .take), (2, .take)] rfl ?_
          refine Sx.st_take hT rfl rfl rfl rfl (Sx.x_move hT rfl rfl) ?_
          clear hT; intro a hT
          refine Sx.st_take hT rfl rfl rfl rfl ((fun w => Sx.x_add w hT rfl rfl rfl (Sx.wrap64 (by omega)))) ?_
          clear hT; intro a hT
          refine Sx.st_take hT rfl rfl rfl rfl (Sx.x_assign hT rfl rfl) ?_
          clear hT; intro a hT
          replace hT := hT.keep [7, 49, 31, 0, 27, 6, 5, 18, 15, 4, 3, 1] rfl
          refine Sx.ser_nil ?_
          refine Sx.then_normal ?_
          have hok2 : okA (addsO (l.take (i + 1))) := by rw [adds_snoc ho, if_neg hk1]; exact hoi
          have hLp1 : L.map Fr.p = foldA [] (addsO (l.take (i + 1))) := by rw [hLp, adds_snoc ho, if_neg hk1]
          exact ⟨(i + 1, L, ad1, c1), ⟨by show i + 1 ≤ _; omega, hok2, hLp1, by show List.length L ≤ i + 1; omega⟩, (hT.keep [7, 0, 27, 6, 5, 18, 15, 4, 3, 1] rfl), (H.keep [0, 1, 2, 3, 4, 5, 6] rfl rfl), by show _ - (i + 1) < _ - i; omega⟩
      · try simp only [decide_eq_true_eq, decide_eq_false_iff_not, Bool.not_eq_true', Bool.not_eq_false', Bool.not_eq_true, Bool.not_eq_false, Bool.and_eq_true, Bool.or_eq_false_iff, beq_iff_eq, bne_iff_ne, Int.not_lt, Int.not_le, ne_eq] at hc46
        refine wp_exit ?_
        refine Sx.then_exit ?_
        refine Sx.then_exit ?_
        refine Sx.block_exit ?_
        exact Sx.then_normal (hJK11 l.length _ _ ⟨Nat.le_refl _, by rw [show l.length = i from by omega]; exact hoi⟩ (hT.keep [0, 27, 6, 5, 18, 15, 4, 3, 1] rfl) (H.keep [3, 4, 5, 6] rfl rfl))

end Go.Proofs.Ythhdoeflafakaaa
