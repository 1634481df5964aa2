/- Walks: SiftPlays. -/
import Derived.Test.YthhdoeflafakaaaS16
set_option linter.unusedSimpArgs false
set_option linter.unusedVariables false
namespace Go.Proofs.Ythhdoeflafakaaa
open Sx
theorem Try.ti55 : Sx.TI Try.prog 55 (.agg #[.slice none 0 0]) 1 24 := .mk' (by kernel_rfl)
theorem Try.fa37_0 : Sx.FA Try.prog 37 0 0 := ⟨_, _, _, _, _, Try.underlying37, rfl, rfl, Try.ti3, by decide⟩
theorem Try.fa37_1 : Sx.FA Try.prog 37 1 1 := ⟨_, _, _, _, _, Try.underlying37, rfl, rfl, Try.ti3, by decide⟩
theorem Try.fa37_3 : Sx.FA Try.prog 37 3 11 := ⟨_, _, _, _, _, Try.underlying37, rfl, rfl, Try.ti28, by decide⟩
theorem Try.bld55 : Sx.Bld Try.prog 55 #[.slice none 0 0] #[(0, 1)] := ⟨_, _, _, _, Try.ti55, rfl, Try.underlying55, fun w => by simp [Sx.placesOf, Sx.run_sizeOf Try.ti29]⟩
theorem Try.can5 : Sx.Can Try.prog 5 := ⟨_, Try.func5, by kernel_rfl, rfl⟩
theorem add_len {L : List Fp} {f : Fp} : (addL L f).length ≤ L.length + 1 := by
  unfold addL
  split
  · rw [(ins_perm L f).length_eq, List.length_cons]; exact Nat.le_refl _
  · exact Nat.le_succ _

set_option maxHeartbeats 4000000 in
theorem Plays_all {ad : Option Addr} {c : Nat} (l : List Op) {w : World} (hs : Ss w ad Op.cells 14 l) (hw : ∀ x ∈ l, Ss w x.f.ad Wt.cells 4 x.f.ws ∧ (∀ y ∈ x.f.ws, y.wf) ∧ (x.f.ad = none → x.f.ws.length = 0 ∧ x.f.c = 0) ∧ x.f.ws.length ≤ 9223372036854775806) (hl : l.length ≤ 9223372036854775806) : Calls Try.prog 5 #[.slice ad l.length c] w fun e w' => e = .returned (.bool true) ∧ Ext No w w' := by
  have R : Ro w No _ := Ro.of fun w' x => hs.ext_no x
  have RM : Ro w No (fun u => ∀ x ∈ l, Ss u x.f.ad Wt.cells 4 x.f.ws) := Ro.of fun w' x y hy => ((hw y hy).1).ext_no x
  refine Sx.calls_into Try.func5 rfl Try.ntmps5 rfl fun a hT => ?_
  replace hT := hT.keep [0] rfl
  have H : Sx.Hp w (Sx.No) w [] := Sx.Hp.start _ _
  refine wp_seq_k fun K1 hK1 => ?_
  -- region 0 (law.go:62)
  refine Sx.wp_text [(0, .take)] rfl ?_
  refine Sx.st_take hT rfl rfl rfl rfl (Sx.x_assign hT rfl rfl) ?_
  clear hT; intro a hT
  replace hT := hT.keep [2, 0] rfl
  refine Sx.ser_nil ?_
  refine Sx.then_normal (hK1 _ _ ?_)
  clear hK1
  refine wp_seq_k fun K2 hK2 => ?_
  refine wp_seq_k fun K3 hK3 => ?_
  -- region 1 (law.go:63)
  refine Sx.wp_text [(0, .run), (1, .take)] rfl ?_
  refine Sx.st_call hT rfl rfl rfl rfl rfl Try.can7 rfl (first_calls _) ?_
  rintro _ w1 ⟨rfl, E⟩
  refine ⟨_, rfl, ?_⟩
  clear hT; intro a hT
  replace H := H.pure E; clear E
  refine Sx.st_take hT rfl rfl rfl rfl (Sx.x_not hT rfl rfl) ?_
  clear hT; intro a hT
  replace hT := hT.keep [11, 2, 0] rfl
  refine Sx.ser_nil ?_
  refine Sx.then_normal (hK3 _ _ ?_)
  clear hK3
  refine Sx.wp_if hT rfl (fun h => by cases h) (fun _ => ?_)
  refine wp_skip ?_
  refine Sx.then_normal (hK2 _ _ ?_)
  clear hK2
  refine wp_seq_k fun K4 hK4 => ?_
  refine wp_seq_k fun K5 hK5 => ?_
  -- region 3 (law.go:66)
  refine Sx.wp_text [(0, .take), (1, .run), (2, .take)] rfl ?_
  refine Sx.st_take hT rfl rfl rfl rfl (Sx.x_move hT rfl rfl) ?_
  clear hT; intro a hT
  refine Sx.st_call hT rfl rfl rfl rfl rfl Try.can8 rfl (few_calls l (R.at H.ext) (fun x hx => ⟨(RM.at H.ext) x hx, (hw x hx).2⟩) hl) ?_
  rintro _ w2 ⟨b9, rfl, hb9, E⟩
  refine ⟨_, rfl, ?_⟩
  clear hT; intro a hT
  replace H := H.pure E; clear E
  refine Sx.st_take hT rfl rfl rfl rfl (Sx.x_not hT rfl rfl) ?_
  clear hT; intro a hT
  replace hT := hT.keep [14, 11, 2, 0] rfl
  refine Sx.ser_nil ?_
  refine Sx.then_normal (hK5 _ _ ?_)
  clear hK5
  -- cond 1
  refine Sx.wp_if hT rfl (fun hc6 => ?_) (fun hc6 => ?_)
  · try simp only [decide_eq_true_eq, decide_eq_false_iff_not, Bool.not_eq_true', Bool.not_eq_false', Bool.not_eq_true, Bool.not_eq_false, Bool.and_eq_true, Bool.or_eq_false_iff, beq_iff_eq, bne_iff_ne, Int.not_lt, Int.not_le, ne_eq] at hc6
    refine wp_seq_k fun K7 hK7 => ?_
    -- region 4 (law.go:67)
    refine Sx.wp_text [(0, .run), (1, .take)] rfl ?_
    refine Sx.st_call hT rfl rfl rfl rfl rfl Try.can7 rfl (first_calls _) ?_
    rintro _ w3 ⟨rfl, E⟩
    refine ⟨_, rfl, ?_⟩
    clear hT; intro a hT
    replace H := H.pure E; clear E
    refine Sx.st_take hT rfl rfl rfl rfl (Sx.x_assign hT rfl rfl) ?_
    clear hT; intro a hT
    replace hT := hT.keep [2, 14, 11, 0] rfl
    refine Sx.ser_nil ?_
    refine Sx.then_normal (hK7 _ _ ?_)
    clear hK7
    refine wp_ret ?_
    refine Sx.then_ret ?_
    refine Sx.done1 (fn := Try.f5) hT rfl (.tmp (hT.get 2 _ rfl)) ?_
    exact ⟨ret_b rfl, H.ext⟩
  · try simp only [decide_eq_true_eq, decide_eq_false_iff_not, Bool.not_eq_true', Bool.not_eq_false', Bool.not_eq_true, Bool.not_eq_false, Bool.and_eq_true, Bool.or_eq_false_iff, beq_iff_eq, bne_iff_ne, Int.not_lt, Int.not_le, ne_eq] at hc6
    obtain ⟨hl3, hws⟩ := hb9 (by simpa using hc6)
    refine wp_skip ?_
    refine Sx.then_normal (hK4 _ _ ?_)
    clear hK4
    refine wp_seq_k fun K8 hK8 => ?_
    -- region 5 (law.go:69)
    refine Sx.wp_text [(0, .run), (1, .take)] rfl ?_
    refine Sx.st_call hT rfl rfl rfl rfl rfl Try.can9 rfl (SNew_calls _) ?_
    rintro _ w4 ⟨p, rfl, K⟩
    refine ⟨_, rfl, ?_⟩
    clear hT; intro a hT
    replace H := H.more K rfl; clear K
    refine Sx.st_take hT rfl rfl rfl rfl (Sx.x_assign hT rfl rfl) ?_
    clear hT; intro a hT
    replace hT := hT.keep [3, 14, 11, 2, 0] rfl
    refine Sx.ser_nil ?_
    refine Sx.then_normal (hK8 _ _ ?_)
    clear hK8
    refine wp_seq_k fun K9 hK9 => ?_
    refine wp_seq_k fun K10 hK10 => ?_
    -- region 6 (law.go:70)
    refine Sx.wp_text [(0, .take), (1, .take)] rfl ?_
    refine Sx.st_take hT rfl rfl rfl rfl (Sx.x_move hT rfl rfl) ?_
    clear hT; intro a hT
    refine Sx.st_take hT rfl rfl rfl rfl (Sx.x_eqnil_some hT rfl Try.underlying25 rfl rfl) ?_
    clear hT; intro a hT
    replace hT := hT.keep [18, 3, 14, 11, 2, 0] rfl
    refine Sx.ser_nil ?_
    refine Sx.then_normal (hK10 _ _ ?_)
    clear hK10
    refine Sx.wp_if hT rfl (fun h => by cases h) (fun _ => ?_)
    refine wp_skip ?_
    refine Sx.then_normal (hK9 _ _ ?_)
    clear hK9
    refine wp_seq_k fun K11 hK11 => ?_
    -- region 8 (law.go:73)
    refine Sx.wp_text [(0, .take), (1, .run), (2, .take)] rfl ?_
    refine Sx.st_take hT rfl rfl rfl rfl (Sx.x_bld hT rfl Try.bld55 rfl rfl) ?_
    clear hT; intro a hT
    refine Sx.st_eff hT rfl rfl rfl rfl (Sx.y_box hT rfl rfl rfl _) ?_
    clear hT; rintro _ w5 ⟨b1, rfl, N⟩ a hT
    replace H := H.new N; clear N
    refine Sx.st_take hT rfl rfl rfl rfl (Sx.x_assign hT rfl rfl) ?_
    clear hT; intro a hT
    replace hT := hT.keep [4, 18, 3, 14, 11, 2, 0] rfl
    refine Sx.ser_nil ?_
    refine Sx.then_normal (hK11 _ _ ?_)
    clear hK11
    refine wp_seq_k fun K12 hK12 => ?_
    refine wp_seq_k fun K13 hK13 => ?_
    -- region 9 (law.go:74)
    refine Sx.wp_text [(0, .take)] rfl ?_
    refine Sx.st_take hT rfl rfl rfl rfl (Sx.x_assign hT rfl rfl) ?_
    clear hT; intro a hT
    replace hT := hT.keep [5, 4, 18, 3, 14, 11, 2, 0] rfl
    refine Sx.ser_nil ?_
    refine Sx.then_normal (hK13 _ _ ?_)
    clear hK13
    refine wp_block ?_
    replace H := (H.nilR 35 9).famNil (α := Fr) 50 4 Fr.rw
    replace H := H.turn (q := fun w => Ss w none Fr.cells 9 ([] : List Fr) ∧ ([] : List Fr).length ≤ 0 ∧ ((none : Option Addr) = none → ([] : List Fr).length = 0 ∧ 0 = 0)) 1 rfl (fun u hu => row_q (L := []) rfl hu) rfl
    -- loop 0
    refine Sx.wp_loopH (G := Nat × List Fr × Option Addr × Nat × List Fr × Option Addr × Option Addr × Nat) (fun ⟨i, L, ad1, c1, M, ad0, ad2, c2⟩ => [(5, .int .i64 (i : Int))]) (fun ⟨i, L, ad1, c1, M, ad0, ad2, c2⟩ => [cB p [.slice ad1 (List.length L) c1] 68, cR 35 9 ad1 (L).length c1 ((L).flatMap Fr.cells), cF 50 4 Fr.rw (L), cB b1 [.slice ad2 (List.length M) c2] 55, cQ ad0 ad2 c2 (M), cF 50 4 Fr.rw (M)]) (fun ⟨i, L, ad1, c1, M, ad0, ad2, c2⟩ => i ≤ l.length ∧ L.map Fr.p = M.map Fr.p ∧ Held (L.map Fr.p) ∧ L.length ≤ i) (fun ⟨i, L, ad1, c1, M, ad0, ad2, c2⟩ => l.length - i) (0, [], none, 0, [], none, none, 0) (hT.keep [5, 4, 18, 3, 14, 11, 0] rfl) (H.keep [3, 4, 5, 2, 1, 0] rfl rfl) (⟨Nat.zero_le _, rfl, held_nil, Nat.le_refl _⟩) ?_
    clear hT H
    rintro ⟨i, L, ad1, c1, M, ad0, ad2, c2⟩ a w6 hJ hT H
    replace hT := hT.keep [5, 4, 18, 3, 14, 11, 0] rfl
    replace H := H.keep [0, 1, 2, 3, 4, 5] rfl rfl
    obtain ⟨hi, hLM, hHd, hLi⟩ := hJ
    refine wp_seq_k fun K14 hK14 => ?_
    refine wp_seq_k fun K15 hK15 => ?_
    -- region 10 (law.go:74)
    refine Sx.wp_text [(0, .take), (1, .take), (2, .take), (3, .take)] rfl ?_
    refine Sx.st_take hT rfl rfl rfl rfl (Sx.x_move hT rfl rfl) ?_
    clear hT; intro a hT
    refine Sx.st_take hT rfl rfl rfl rfl (Sx.x_move hT rfl rfl) ?_
    clear hT; intro a hT
    refine Sx.st_take hT rfl rfl rfl rfl (Sx.x_len_slice hT rfl rfl Try.underlying22 rfl) ?_
    clear hT; intro a hT
    refine Sx.st_take hT rfl rfl rfl rfl ((fun w => Sx.x_lt w hT rfl rfl rfl)) ?_
    clear hT; intro a hT
    replace hT := hT.keep [24, 5, 4, 18, 3, 14, 11, 0] rfl
    refine Sx.ser_nil ?_
    refine Sx.then_normal (hK15 _ _ ?_)
    clear hK15
    -- cond 3
    refine Sx.wp_if hT rfl (fun hc16 => ?_) (fun hc16 => ?_)
    · try simp only [decide_eq_true_eq, decide_eq_false_iff_not, Bool.not_eq_true', Bool.not_eq_false', Bool.not_eq_true, Bool.not_eq_false, Bool.and_eq_true, Bool.or_eq_false_iff, beq_iff_eq, bne_iff_ne, Int.not_lt, Int.not_le, ne_eq] at hc16
      obtain ⟨o, ho⟩ : ∃ o, l[i]? = some o := ⟨_, List.getElem?_eq_getElem (by omega)⟩
      have hom := List.mem_of_getElem? ho
      obtain ⟨-, -, hon, -⟩ := hw o hom
      have how := hws o hom
      have RMx : Ro w No (fun u => Ss u o.f.ad Wt.cells 4 o.f.ws) := RM.mono fun u h => h o hom
      have hLMl : L.length = M.length := by have := congrArg List.length hLM; simpa using this
      refine wp_skip ?_
      refine Sx.then_normal (hK14 _ _ ?_)
      clear hK14
      refine wp_seq_k fun K17 hK17 => ?_
      refine wp_block ?_
      refine wp_seq_k fun K18 hK18 => ?_
      -- region 12 (law.go:75)
      refine Sx.wp_text [(0, .take), (1, .take), (2, .take), (3, .run), (4, .run), (5, .run)] rfl ?_
      refine Sx.st_take hT rfl rfl rfl rfl (Sx.x_move hT rfl rfl) ?_
      clear hT; intro a hT
      refine Sx.st_take hT rfl rfl rfl rfl (Sx.x_move hT rfl rfl) ?_
      clear hT; intro a hT
      refine Sx.st_take hT rfl rfl rfl rfl (Sx.x_index (k := i) hT rfl Try.underlying22 Try.ti37 (R.at H.ext).sv rfl rfl (by first | rfl | omega) (by omega)) ?_
      clear hT; intro a hT
      refine Sx.st_run hT rfl rfl rfl rfl (Sx.y_loadS hT rfl Try.underlying37 Try.ti37 rfl (by first | exact ((H.blk 0 rfl).seg (k := 14) rfl) | exact ((H.blk 3 rfl).seg (k := 14) rfl) | exact ((R.at H.ext).cs Op.len ho)) (by rfl)) ?_
      clear hT; intro a hT
      refine Sx.st_eff hT rfl rfl rfl rfl (Sx.y_alloc hT rfl Try.ti37 rfl _) ?_
      clear hT; rintro _ w7 ⟨b2, rfl, N⟩ a hT
      replace H := H.new N; clear N
      refine Sx.st_act hT rfl rfl rfl (Sx.y_storeS hT rfl Try.ti37 rfl rfl rfl rfl rfl (H.blk 0 rfl) rfl) ?_
      rintro w8 ⟨hb, E, _⟩
      replace H := H.setB 0 rfl hb E rfl; clear hb E
      replace hT := hT.keep [6, 24, 5, 4, 18, 3, 14, 11, 0] rfl
      refine Sx.ser_nil ?_
      refine Sx.then_normal (hK18 _ _ ?_)
      clear hK18
      refine wp_seq_k fun K19 hK19 => ?_
      -- region 13 (law.go:76)
      refine Sx.wp_text [(0, .take)] rfl ?_
      refine Sx.st_take hT rfl rfl rfl rfl (Sx.x_assign hT rfl rfl) ?_
      clear hT; intro a hT
      replace hT := hT.keep [7, 6, 24, 5, 4, 18, 3, 14, 11, 0] rfl
      refine Sx.ser_nil ?_
      refine Sx.then_normal (hK19 _ _ ?_)
      clear hK19
      refine wp_seq_k fun K20 hK20 => ?_
      refine Sx.wp_join (G := List Fr × Option Addr × Nat × List Fr × Option Addr × Option Addr × Nat) (fun ⟨L, ad1, c1, M, ad0, ad2, c2⟩ => [(7, .bool true)]) (fun ⟨L, ad1, c1, M, ad0, ad2, c2⟩ => [cB p [.slice ad1 (List.length L) c1] 68, cR 35 9 ad1 (L).length c1 ((L).flatMap Fr.cells), cF 50 4 Fr.rw (L), cB b1 [.slice ad2 (List.length M) c2] 55, cQ ad0 ad2 c2 (M), cF 50 4 Fr.rw (M)]) (fun ⟨L, ad1, c1, M, ad0, ad2, c2⟩ => L.map Fr.p = M.map Fr.p ∧ Held (L.map Fr.p) ∧ L.length ≤ i + 1) (hT.keep [6, 24, 5, 4, 18, 3, 14, 11, 0] rfl) (H.keep [0] rfl rfl) hK20 ?_ ?_
      · clear hT H hK20
        rintro ⟨L, ad1, c1, M, ad0, ad2, c2⟩ a w9 hJ hT H
        replace hT := hT.keep [7, 6, 24, 5, 4, 18, 3, 14, 11, 0] rfl
        replace H := H.keep [0, 1, 2, 3, 4, 5, 6] rfl rfl
        obtain ⟨hLM, hHd, hLi⟩ := hJ
        have hLMl : L.length = M.length := by have := congrArg List.length hLM; simpa using this
        refine wp_seq_k fun K21 hK21 => ?_
        -- region 27 (law.go:90)
        refine Sx.wp_text [(0, .take), (1, .take), (2, .take), (3, .take), (4, .take), (5, .run), (6, .take), (7, .take)] rfl ?_
        refine Sx.st_take hT rfl rfl rfl rfl (Sx.x_move hT rfl rfl) ?_
        clear hT; intro a hT
        refine Sx.st_take hT rfl rfl rfl rfl (Sx.x_not hT rfl rfl) ?_
        clear hT; intro a hT
        refine Sx.st_take hT rfl rfl rfl rfl (Sx.x_move hT rfl rfl) ?_
        clear hT; intro a hT
        -- guard (27, 2)
        refine Sx.Sl.two hT 106 rfl (fun hc22 hT => ?_) (fun hc22 hT => ?_)
        · exfalso
          try simp only [decide_eq_true_eq, decide_eq_false_iff_not, Bool.not_eq_true', Bool.not_eq_false', Bool.not_eq_true, Bool.not_eq_false, Bool.and_eq_true, Bool.or_eq_false_iff, beq_iff_eq, bne_iff_ne, Int.not_lt, Int.not_le, ne_eq] at hc22
          simp at hc22
        · try simp only [decide_eq_true_eq, decide_eq_false_iff_not, Bool.not_eq_true', Bool.not_eq_false', Bool.not_eq_true, Bool.not_eq_false, Bool.and_eq_true, Bool.or_eq_false_iff, beq_iff_eq, bne_iff_ne, Int.not_lt, Int.not_le, ne_eq] at hc22
          refine Sx.st_take hT rfl rfl rfl rfl (Sx.x_move hT rfl rfl) ?_
          clear hT; intro a hT
          refine Sx.st_take hT rfl rfl rfl rfl (Sx.x_move hT rfl rfl) ?_
          clear hT; intro a hT
          refine Sx.st_call hT rfl rfl rfl rfl rfl Try.can25 rfl (stands_calls L M (H.blk 0 rfl) ((H.row 1 rfl).ssn rfl) (fam_fr (H.fam 2 rfl)) (fun x hx => (held_fam hHd (H.fam 2 rfl) x hx).2) (H.blk 3 rfl) ((H.at 4 rfl).1) (fam_fr (H.fam 5 rfl)) hLM hHd (by omega)) ?_
          rintro _ w10 ⟨rfl, E⟩
          refine ⟨_, rfl, ?_⟩
          clear hT; intro a hT
          replace H := H.pure E; clear E
          refine Sx.st_take hT rfl rfl rfl rfl (Sx.x_not hT rfl rfl) ?_
          clear hT; intro a hT
          refine Sx.st_take hT rfl rfl rfl rfl (Sx.x_pick_f hT rfl rfl rfl) ?_
          clear hT; intro a hT
          replace hT := hT.keep [111, 7, 6, 24, 5, 4, 18, 3, 14, 11, 0] rfl
          refine Sx.ser_nil ?_
          refine Sx.then_normal (hK21 _ _ ?_)
          clear hK21
          refine Sx.wp_if hT rfl (fun h => by cases h) (fun _ => ?_)
          refine wp_skip ?_
          refine Sx.block_normal ?_
          refine Sx.then_normal (hK17 _ _ ?_)
          clear hK17
          -- region 11 (law.go:74)
          refine Sx.wp_text [(0, .take), (1, .take), (2, .take)] rfl ?_
          refine Sx.st_take hT rfl rfl rfl rfl (Sx.x_move hT rfl rfl) ?_
          clear hT; intro a hT
          refine Sx.st_take hT rfl rfl rfl rfl ((fun w => Sx.x_add w hT rfl rfl rfl (Sx.wrap64 (by omega)))) ?_
          clear hT; intro a hT
          refine Sx.st_take hT rfl rfl rfl rfl (Sx.x_assign hT rfl rfl) ?_
          clear hT; intro a hT
          replace hT := hT.keep [5, 111, 7, 6, 24, 4, 18, 3, 14, 11, 0] rfl
          refine Sx.ser_nil ?_
          refine Sx.then_normal ?_
          exact ⟨(i + 1, L, ad1, c1, M, ad0, ad2, c2), ⟨by show i + 1 ≤ _; omega, hLM, hHd, by show L.length ≤ i + 1; omega⟩, (hT.keep [5, 4, 18, 3, 14, 11, 0] rfl), (H.keep [0, 1, 2, 3, 4, 5] rfl rfl), by show _ - (i + 1) < _ - i; omega⟩
      · clear hK20; intro hJK20
        refine wp_seq_k fun K23 hK23 => ?_
        -- region 14 (law.go:77)
        refine Sx.wp_text [(0, .take), (1, .run)] rfl ?_
        refine Sx.st_take hT rfl rfl rfl rfl (Sx.x_fieldAddr hT rfl Try.fa37_0 rfl) ?_
        clear hT; intro a hT
        refine Sx.st_run hT rfl rfl rfl rfl (Sx.x_load1 hT rfl Try.fl3 rfl ((H.blk 0 rfl).nth rfl)) ?_
        clear hT; intro a hT
        replace hT := hT.keep [32, 7, 6, 24, 5, 4, 18, 3, 14, 11, 0] rfl
        refine Sx.ser_nil ?_
        refine Sx.then_normal (hK23 _ _ ?_)
        clear hK23
        refine wp_block ?_
        refine wp_seq_k fun K24 hK24 => ?_
        -- region 15 (law.go:78)
        refine Sx.wp_text [(0, .take), (1, .take)] rfl ?_
        refine Sx.st_take hT rfl rfl rfl rfl ((fun w => Sx.x_eq w hT rfl rfl rfl)) ?_
        clear hT; intro a hT
        refine Sx.st_take hT rfl rfl rfl rfl (Sx.x_assign hT rfl rfl) ?_
        clear hT; intro a hT
        replace hT := hT.keep [33, 32, 7, 6, 24, 5, 4, 18, 3, 14, 11, 0] rfl
        refine Sx.ser_nil ?_
        refine Sx.then_normal (hK24 _ _ ?_)
        clear hK24
        -- cond 4
        refine Sx.wp_if hT rfl (fun hc25 => ?_) (fun hc25 => ?_)
        · try simp only [decide_eq_true_eq, decide_eq_false_iff_not, Bool.not_eq_true', Bool.not_eq_false', Bool.not_eq_true, Bool.not_eq_false, Bool.and_eq_true, Bool.or_eq_false_iff, beq_iff_eq, bne_iff_ne, Int.not_lt, Int.not_le, ne_eq] at hc25
          refine wp_seq_k fun K26 hK26 => ?_
          -- region 16 (law.go:79)
          refine Sx.wp_text [(0, .take), (1, .run), (2, .run), (3, .run)] rfl ?_
          refine Sx.st_take hT rfl rfl rfl rfl (Sx.x_fieldAddr hT rfl Try.fa37_2 rfl) ?_
          clear hT; intro a hT
          refine Sx.st_run hT rfl rfl rfl rfl (Sx.y_loadS hT rfl Try.underlying35 Try.ti35 rfl ((H.blk 0 rfl).seg (k := 9) rfl) (by rfl)) ?_
          clear hT; intro a hT
          refine Sx.st_eff hT rfl rfl rfl rfl (Sx.y_alloc hT rfl Try.ti35 rfl _) ?_
          clear hT; rintro _ w11 ⟨b3, rfl, N⟩ a hT
          replace H := H.new N; clear N
          refine Sx.st_act hT rfl rfl rfl (Sx.y_storeS hT rfl Try.ti35 rfl rfl rfl rfl rfl (H.blk 0 rfl) rfl) ?_
          rintro w12 ⟨hb, E, _⟩
          replace H := H.setB 0 rfl hb E rfl; clear hb E
          replace hT := hT.keep [8, 33, 32, 7, 6, 24, 5, 4, 18, 3, 14, 11, 0] rfl
          refine Sx.ser_nil ?_
          refine Sx.then_normal (hK26 _ _ ?_)
          clear hK26
          refine wp_seq_k fun K27 hK27 => ?_
          -- region 17 (law.go:80)
          refine Sx.wp_text [(0, .take), (1, .take), (2, .run), (3, .run), (4, .take), (5, .run)] rfl ?_
          refine Sx.st_take hT rfl rfl rfl rfl (Sx.x_fieldAddr hT rfl Try.fa37_2 rfl) ?_
          clear hT; intro a hT
          refine Sx.st_take hT rfl rfl rfl rfl (Sx.x_fieldAddr hT rfl Try.fa35_4 rfl) ?_
          clear hT; intro a hT
          refine Sx.st_run hT rfl rfl rfl rfl (Sx.x_load1 hT rfl Try.fl33 rfl ((H.blk 1 rfl).nth rfl)) ?_
          clear hT; intro a hT
          refine Sx.st_call hT rfl rfl rfl rfl rfl Try.can17 rfl (CopyWrites_calls o.f.ws (RMx.at H.ext) (by omega)) ?_
          rintro _ w13 ⟨ad7, c7, rfl, K⟩
          refine ⟨_, rfl, ?_⟩
          clear hT; intro a hT
          replace H := H.more K rfl; clear K
          refine Sx.st_take hT rfl rfl rfl rfl (Sx.x_fieldAddr hT rfl Try.fa35_4 rfl) ?_
          clear hT; intro a hT
          refine Sx.st_act hT rfl rfl rfl (Sx.y_store1 hT rfl Try.ti33 rfl rfl rfl (H.blk 1 rfl) rfl) ?_
          rintro w14 ⟨hb, E, _⟩
          replace H := H.setB 1 rfl hb E rfl; clear hb E
          replace hT := hT.keep [8, 33, 32, 7, 6, 24, 5, 4, 18, 3, 14, 11, 0] rfl
          refine Sx.ser_nil ?_
          refine Sx.then_normal (hK27 _ _ ?_)
          clear hK27
          refine wp_seq_k fun K28 hK28 => ?_
          refine Sx.wp_join (G := List Fr × Option Addr × Nat × List Fr × Option Addr × Option Addr × Nat) (fun ⟨L1, ad9, c9, M1, ad0b, adb, cb⟩ => [(7, .bool true)]) (fun ⟨L1, ad9, c9, M1, ad0b, adb, cb⟩ => [cB p [.slice ad9 (List.length L1) c9] 68, cR 35 9 ad9 (L1).length c9 ((L1).flatMap Fr.cells), cF 50 4 Fr.rw (L1), cB b1 [.slice adb (List.length M1) cb] 55, cQ ad0b adb cb (M1), cF 50 4 Fr.rw (M1)]) (fun ⟨L1, ad9, c9, M1, ad0b, adb, cb⟩ => L1.map Fr.p = addL (L.map Fr.p) o.f.p ∧ L1.map Fr.p = M1.map Fr.p) (hT.keep [8, 33, 32, 6, 24, 5, 4, 18, 3, 14, 11, 0] rfl) (H.keep [0, 1, 2] rfl rfl) hK28 ?_ ?_
          · clear hT H hK28
            rintro ⟨L1, ad9, c9, M1, ad0b, adb, cb⟩ a w15 hJ hT H
            replace hT := hT.keep [7, 8, 33, 32, 6, 24, 5, 4, 18, 3, 14, 11, 0] rfl
            replace H := H.keep [0, 1, 2, 3, 4, 5, 6, 7, 8] rfl rfl
            obtain ⟨hp1, hLM1⟩ := hJ
            refine wp_seq_k fun K29 hK29 => ?_
            -- region 19 (law.go:82)
            refine Sx.wp_text [(0, .take)] rfl ?_
            refine Sx.st_take hT rfl rfl rfl rfl (Sx.x_assign hT rfl rfl) ?_
            clear hT; intro a hT
            replace hT := hT.keep [9, 7, 8, 33, 32, 6, 24, 5, 4, 18, 3, 14, 11, 0] rfl
            refine Sx.ser_nil ?_
            refine Sx.then_normal (hK29 _ _ ?_)
            clear hK29
            refine wp_block ?_
            -- loop 1
            refine Sx.wp_loopH (G := Nat × List Wt) (fun ⟨j, W⟩ => [(9, .int .i64 (j : Int))]) (fun ⟨j, W⟩ => [cR 50 4 ad7 o.f.ws.length c7 (W.flatMap Wt.cells)]) (fun ⟨j, W⟩ => j ≤ o.f.ws.length ∧ W.length = o.f.ws.length) (fun ⟨j, W⟩ => o.f.ws.length - j) (0, o.f.ws) (hT.keep [9, 7, 8, 33, 32, 6, 24, 5, 4, 18, 3, 14, 11, 0] rfl) (H.keep [6, 0, 1, 2, 3, 4, 5, 7, 8] rfl rfl) (⟨Nat.zero_le _, rfl⟩) ?_
            clear hT H
            rintro ⟨j, W⟩ a w16 hJ hT H
            replace hT := hT.keep [9, 7, 8, 33, 32, 6, 24, 5, 4, 18, 3, 14, 11, 0] rfl
            replace H := H.keep [0, 1, 2, 3, 4, 5, 6, 7, 8] rfl rfl
            obtain ⟨hj, hWl⟩ := hJ
            refine wp_seq_k fun K30 hK30 => ?_
            refine wp_seq_k fun K31 hK31 => ?_
            -- region 20 (law.go:82)
            refine Sx.wp_text [(0, .take), (1, .take), (2, .run), (3, .take), (4, .take)] rfl ?_
            refine Sx.st_take hT rfl rfl rfl rfl (Sx.x_move hT rfl rfl) ?_
            clear hT; intro a hT
            refine Sx.st_take hT rfl rfl rfl rfl (Sx.x_fieldAddr hT rfl Try.fa35_4 rfl) ?_
            clear hT; intro a hT
            refine Sx.st_run hT rfl rfl rfl rfl (Sx.x_load1 hT rfl Try.fl33 rfl ((H.blk 7 rfl).nth rfl)) ?_
            clear hT; intro a hT
            refine Sx.st_take hT rfl rfl rfl rfl (Sx.x_len_slice hT rfl rfl Try.underlying33 rfl) ?_
            clear hT; intro a hT
            refine Sx.st_take hT rfl rfl rfl rfl ((fun w => Sx.x_lt w hT rfl rfl rfl)) ?_
            clear hT; intro a hT
            replace hT := hT.keep [68, 9, 7, 8, 33, 32, 6, 24, 5, 4, 18, 3, 14, 11, 0] rfl
            refine Sx.ser_nil ?_
            refine Sx.then_normal (hK31 _ _ ?_)
            clear hK31
            -- cond 5
            refine Sx.wp_if hT rfl (fun hc32 => ?_) (fun hc32 => ?_)
            · try simp only [decide_eq_true_eq, decide_eq_false_iff_not, Bool.not_eq_true', Bool.not_eq_false', Bool.not_eq_true, Bool.not_eq_false, Bool.and_eq_true, Bool.or_eq_false_iff, beq_iff_eq, bne_iff_ne, Int.not_lt, Int.not_le, ne_eq] at hc32
              refine wp_skip ?_
              refine Sx.then_normal (hK30 _ _ ?_)
              clear hK30
              refine wp_seq_k fun K33 hK33 => ?_
              refine wp_block ?_
              -- region 22 (law.go:83)
              refine Sx.wp_text [(0, .take), (1, .run), (2, .take), (3, .take), (4, .take), (5, .run)] rfl ?_
              refine Sx.st_take hT rfl rfl rfl rfl (Sx.x_fieldAddr hT rfl Try.fa35_4 rfl) ?_
              clear hT; intro a hT
              refine Sx.st_run hT rfl rfl rfl rfl (Sx.x_load1 hT rfl Try.fl33 rfl ((H.blk 7 rfl).nth rfl)) ?_
              clear hT; intro a hT
              refine Sx.st_take hT rfl rfl rfl rfl (Sx.x_move hT rfl rfl) ?_
              clear hT; intro a hT
              refine Sx.st_take hT rfl rfl rfl rfl (Sx.x_bld hT rfl Try.bld50 rfl rfl) ?_
              clear hT; intro a hT
              refine Sx.st_take hT rfl rfl rfl rfl (Sx.x_index (k := j) hT rfl Try.underlying33 Try.ti50 (H.row 0 rfl).sv rfl rfl (by first | rfl | omega) (by omega)) ?_
              clear hT; intro a hT
              refine Sx.st_act hT rfl rfl rfl (Sx.x_storeRowS (k := j) (r := spW) hT rfl Try.ti50 rfl rfl Wt.len Wt.one rfl (H.row 0 rfl) hWl.symm (by omega)) ?_
              rintro w17 ⟨hr, E, _⟩
              replace H := H.setR 0 rfl hr E (fun _ hk => .inl hk) rfl; clear hr E
              replace hT := hT.keep [68, 9, 7, 8, 33, 32, 6, 24, 5, 4, 18, 3, 14, 11, 0] rfl
              refine Sx.ser_nil ?_
              refine Sx.block_normal ?_
              refine Sx.then_normal (hK33 _ _ ?_)
              clear hK33
              -- region 21 (law.go:82)
              refine Sx.wp_text [(0, .take), (1, .take), (2, .take)] rfl ?_
              refine Sx.st_take hT rfl rfl rfl rfl (Sx.x_move hT rfl rfl) ?_
              clear hT; intro a hT
              refine Sx.st_take hT rfl rfl rfl rfl ((fun w => Sx.x_add w hT rfl rfl rfl (Sx.wrap64 (by omega)))) ?_
              clear hT; intro a hT
              refine Sx.st_take hT rfl rfl rfl rfl (Sx.x_assign hT rfl rfl) ?_
              clear hT; intro a hT
              replace hT := hT.keep [9, 68, 7, 8, 33, 32, 6, 24, 5, 4, 18, 3, 14, 11, 0] rfl
              refine Sx.ser_nil ?_
              refine Sx.then_normal ?_
              exact ⟨(j + 1, W.set j spW), ⟨by show j + 1 ≤ _; omega, by show (W.set j spW).length = _; rw [List.length_set, hWl]⟩, (hT.keep [9, 7, 8, 33, 32, 6, 24, 5, 4, 18, 3, 14, 11, 0] rfl), (H.keep [0, 1, 2, 3, 4, 5, 6, 7, 8] rfl rfl), by show _ - (j + 1) < _ - j; omega⟩
            · try simp only [decide_eq_true_eq, decide_eq_false_iff_not, Bool.not_eq_true', Bool.not_eq_false', Bool.not_eq_true, Bool.not_eq_false, Bool.and_eq_true, Bool.or_eq_false_iff, beq_iff_eq, bne_iff_ne, Int.not_lt, Int.not_le, ne_eq] at hc32
              refine wp_exit ?_
              refine Sx.then_exit ?_
              refine Sx.then_exit ?_
              refine Sx.block_exit ?_
              refine Sx.block_normal ?_
              skip
              exact Sx.then_normal (hJK20 (L1, ad9, c9, M1, ad0b, adb, cb) _ _ ⟨hLM1, by rw [hp1]; exact held_add hHd _, by have h9 := add_len (L := L.map Fr.p) (f := o.f.p); rw [← hp1, List.length_map, List.length_map] at h9; show L1.length ≤ i + 1; omega⟩ (hT.keep [7, 6, 24, 5, 4, 18, 3, 14, 11, 0] rfl) (H.keep [1, 2, 3, 4, 5, 6, 8] rfl rfl))
          · clear hK28; intro hJK28
            -- region 18 (law.go:81)
            refine Sx.wp_drawsT (fun u => Sx.Ext (Sx.No) u) (.node [(2, .take)] (.node [(0, .run)] (.node [(1, .run), (3, .run), (4, .run), (5, .take), (6, .take), (7, .take), (10, .take), (11, .take)] (.node [(8, .run)] (.node [(9, .run), (12, .run), (13, .run), (14, .take), (15, .take), (16, .take), (18, .take)] (.leaf [(17, .run), (19, .run), (20, .run), (21, .take), (22, .take)]) (.leaf [(19, .run), (17, .run), (20, .run), (21, .take), (22, .take)])) (.node [(12, .run), (9, .run), (13, .run), (14, .take), (15, .take), (16, .take), (18, .take)] (.leaf [(17, .run), (19, .run), (20, .run), (21, .take), (22, .take)]) (.leaf [(19, .run), (17, .run), (20, .run), (21, .take), (22, .take)]))) (.node [(12, .run), (8, .run), (9, .run), (13, .run), (14, .take), (15, .take), (16, .take), (18, .take)] (.leaf [(17, .run), (19, .run), (20, .run), (21, .take), (22, .take)]) (.leaf [(19, .run), (17, .run), (20, .run), (21, .take), (22, .take)]))) (.node [(3, .run), (1, .run), (4, .run), (5, .take), (6, .take), (7, .take), (10, .take), (11, .take)] (.node [(8, .run)] (.node [(9, .run), (12, .run), (13, .run), (14, .take), (15, .take), (16, .take), (18, .take)] (.leaf [(17, .run), (19, .run), (20, .run), (21, .take), (22, .take)]) (.leaf [(19, .run), (17, .run), (20, .run), (21, .take), (22, .take)])) (.node [(12, .run), (9, .run), (13, .run), (14, .take), (15, .take), (16, .take), (18, .take)] (.leaf [(17, .run), (19, .run), (20, .run), (21, .take), (22, .take)]) (.leaf [(19, .run), (17, .run), (20, .run), (21, .take), (22, .take)]))) (.node [(12, .run), (8, .run), (9, .run), (13, .run), (14, .take), (15, .take), (16, .take), (18, .take)] (.leaf [(17, .run), (19, .run), (20, .run), (21, .take), (22, .take)]) (.leaf [(19, .run), (17, .run), (20, .run), (21, .take), (22, .take)])))) (.node [(3, .run), (0, .run), (1, .run), (4, .run), (5, .take), (6, .take), (7, .take), (10, .take), (11, .take)] (.node [(8, .run)] (.node [(9, .run), (12, .run), (13, .run), (14, .take), (15, .take), (16, .take), (18, .take)] (.leaf [(17, .run), (19, .run), (20, .run), (21, .take), (22, .take)]) (.leaf [(19, .run), (17, .run), (20, .run), (21, .take), (22, .take)])) (.node [(12, .run), (9, .run), (13, .run), (14, .take), (15, .take), (16, .take), (18, .take)] (.leaf [(17, .run), (19, .run), (20, .run), (21, .take), (22, .take)]) (.leaf [(19, .run), (17, .run), (20, .run), (21, .take), (22, .take)]))) (.node [(12, .run), (8, .run), (9, .run), (13, .run), (14, .take), (15, .take), (16, .take), (18, .take)] (.leaf [(17, .run), (19, .run), (20, .run), (21, .take), (22, .take)]) (.leaf [(19, .run), (17, .run), (20, .run), (21, .take), (22, .take)])))) (by kernel_rfl) (by kernel_rfl) (fun u E _ => ?_)
            refine Sx.tser_node ?_
            replace H := H.pure E; clear E
            refine Sx.st_take hT rfl rfl rfl rfl (Sx.x_fieldAddr hT rfl Try.fa37_2 rfl) ?_
            clear hT; intro a hT
            refine Sx.ser_forkT ?_ ?_
            · skip
              refine Sx.tser_node ?_
              refine Sx.st_run hT rfl rfl rfl rfl (Sx.y_loadS hT rfl Try.underlying35 Try.ti35 rfl ((H.blk 1 rfl).seg (k := 9) rfl) (by rfl)) ?_
              clear hT; intro a hT
              refine Sx.ser_forkT ?_ ?_
              · skip
                refine Sx.tser_node ?_
                refine Sx.st_call hT rfl rfl rfl rfl rfl Try.can18 rfl (SMay_calls (⟨o.f.rg, o.f.at_, o.f.t, o.f.s, ad7, c7, o.f.ws⟩ : Fr) ((H.row 0 rfl).ssn rfl) (by show o.f.ws.length ≤ _; omega)) ?_
                rintro _ w18 ⟨rfl, E⟩
                refine ⟨_, rfl, ?_⟩
                clear hT; intro a hT
                replace H := H.pure E; clear E
                refine Sx.st_run hT rfl rfl rfl rfl (Sx.y_loadS hT rfl Try.underlying35 Try.ti35 rfl ((H.blk 2 rfl).seg (k := 9) rfl) (by rfl)) ?_
                clear hT; intro a hT
                refine Sx.st_call hT rfl rfl rfl rfl rfl Try.can19 rfl (xSMay_calls o.f (RMx.at H.ext) (by omega)) ?_
                rintro _ w19 ⟨rfl, E⟩
                refine ⟨_, rfl, ?_⟩
                clear hT; intro a hT
                replace H := H.pure E; clear E
                refine Sx.st_take hT rfl rfl rfl rfl (Sx.x_eqb hT rfl Try.underlying4 rfl rfl) ?_
                clear hT; intro a hT
                refine Sx.st_take hT rfl rfl rfl rfl (Sx.x_move hT rfl rfl) ?_
                clear hT; intro a hT
                -- guard (18, 6)
                refine Sx.Sl.two hT 48 rfl (fun hc34 hT => ?_) (fun hc34 hT => ?_)
                · try simp only [decide_eq_true_eq, decide_eq_false_iff_not, Bool.not_eq_true', Bool.not_eq_false', Bool.not_eq_true, Bool.not_eq_false, Bool.and_eq_true, Bool.or_eq_false_iff, beq_iff_eq, bne_iff_ne, Int.not_lt, Int.not_le, ne_eq] at hc34
                  refine Sx.st_take hT rfl rfl rfl rfl (Sx.x_move hT rfl rfl) ?_
                  clear hT; intro a hT
                  refine Sx.st_take hT rfl rfl rfl rfl (Sx.x_move hT rfl rfl) ?_
                  clear hT; intro a hT
                  refine Sx.st_take hT rfl rfl rfl rfl (Sx.x_fieldAddr hT rfl Try.fa37_2 rfl) ?_
                  clear hT; intro a hT
                  refine Sx.ser_forkT ?_ ?_
                  · skip
                    refine Sx.tser_node ?_
                    refine Sx.st_run hT rfl rfl rfl rfl (Sx.y_loadS hT rfl Try.underlying35 Try.ti35 rfl ((H.blk 1 rfl).seg (k := 9) rfl) (by rfl)) ?_
                    clear hT; intro a hT
                    refine Sx.ser_forkT ?_ ?_
                    · skip
                      refine Sx.tser_node ?_
                      refine Sx.st_call hT rfl rfl rfl rfl rfl Try.can11 rfl (Add_calls (⟨o.f.rg, o.f.at_, o.f.t, o.f.s, ad7, c7, o.f.ws⟩ : Fr) (H.pre [3, 4, 5] rfl rfl) ((H.lend 0 rfl [3, 4, 5] rfl rfl).mono fun u h => h.ssn rfl) (rownil (H.row 0 rfl)) (by show o.f.ws.length ≤ _; omega) hHd (by omega)) ?_
                      rintro _ w20 ⟨ad9, c9, L1, rfl, K, hp1⟩
                      refine ⟨_, rfl, ?_⟩
                      clear hT; intro a hT
                      replace H := H.back [3, 4, 5] [0, 1, 2, 6, 7, 8] rfl rfl rfl K rfl; clear K
                      have hp1 : L1.map Fr.p = addL (L.map Fr.p) o.f.p := hp1
                      refine Sx.st_run hT rfl rfl rfl rfl (Sx.y_loadS hT rfl Try.underlying35 Try.ti35 rfl ((H.blk 5 rfl).seg (k := 9) rfl) (by rfl)) ?_
                      clear hT; intro a hT
                      refine Sx.st_call hT rfl rfl rfl rfl rfl Try.can20 rfl (xAdd_calls o.f (H.pre [6, 7, 8] rfl rfl) (H.ro RMx [6, 7, 8] rfl) (by omega) (by rw [← hLM]; exact hHd) (by omega)) ?_
                      rintro _ w21 ⟨ad0b, adb, cb, M1, rfl, K, hp2⟩
                      refine ⟨_, rfl, ?_⟩
                      clear hT; intro a hT
                      replace H := H.back [6, 7, 8] [0, 1, 2, 3, 4, 5] rfl rfl rfl K rfl; clear K
                      rw [← hLM] at hT hp2
                      have hLM1 : L1.map Fr.p = M1.map Fr.p := hp1.trans hp2.symm
                      refine Sx.st_take hT rfl rfl rfl rfl ((fun w => Sx.x_eq w hT rfl rfl rfl)) ?_
                      clear hT; intro a hT
                      refine Sx.st_take hT rfl rfl rfl rfl (Sx.x_pick_t hT rfl rfl rfl) ?_
                      clear hT; intro a hT
                      refine Sx.st_take hT rfl rfl rfl rfl (Sx.x_move hT rfl rfl) ?_
                      clear hT; intro a hT
                      -- guard (18, 16)
                      refine Sx.Sl.two hT 58 rfl (fun hc35 hT => ?_) (fun hc35 hT => ?_)
                      · try simp only [decide_eq_true_eq, decide_eq_false_iff_not, Bool.not_eq_true', Bool.not_eq_false', Bool.not_eq_true, Bool.not_eq_false, Bool.and_eq_true, Bool.or_eq_false_iff, beq_iff_eq, bne_iff_ne, Int.not_lt, Int.not_le, ne_eq] at hc35
                        refine Sx.st_take hT rfl rfl rfl rfl (Sx.x_fieldAddr hT rfl Try.fa37_2 rfl) ?_
                        clear hT; intro a hT
                        refine Sx.ser_forkT ?_ ?_
                        · skip
                          refine Sx.tser_leaf ?_
                          refine Sx.st_run hT rfl rfl rfl rfl (Sx.y_loadS hT rfl Try.underlying35 Try.ti35 rfl ((H.blk 7 rfl).seg (k := 9) rfl) (by rfl)) ?_
                          clear hT; intro a hT
                          refine Sx.st_run hT rfl rfl rfl rfl (Sx.y_loadS hT rfl Try.underlying35 Try.ti35 rfl ((H.blk 8 rfl).seg (k := 9) rfl) (by rfl)) ?_
                          clear hT; intro a hT
                          refine Sx.st_call hT rfl rfl rfl rfl rfl Try.can21 rfl (Fragment_calls (⟨o.f.rg, o.f.at_, o.f.t, o.f.s, ad7, c7, o.f.ws⟩ : Fr) o.f ((H.row 6 rfl).ssn rfl) (RMx.at H.ext) (by show o.f.ws.length ≤ _; omega)) ?_
                          rintro _ w22 ⟨rfl, E⟩
                          refine ⟨_, rfl, ?_⟩
                          clear hT; intro a hT
                          replace H := H.pure E; clear E
                          rw [decide_eq_true (show Fr.p (⟨o.f.rg, o.f.at_, o.f.t, o.f.s, ad7, c7, o.f.ws⟩ : Fr) = Fr.p o.f from rfl)] at hT
                          refine Sx.st_take hT rfl rfl rfl rfl (Sx.x_pick_t hT rfl rfl rfl) ?_
                          clear hT; intro a hT
                          refine Sx.st_take hT rfl rfl rfl rfl (Sx.x_assign hT rfl rfl) ?_
                          clear hT; intro a hT
                          replace hT := hT.keep [7, 8, 33, 32, 6, 24, 5, 4, 18, 3, 14, 11, 0] rfl
                          refine Sx.ser_calm ?_
                          exact Sx.then_normal (hJK28 (L1, ad9, c9, M1, ad0b, adb, cb) _ _ ⟨hp1, hLM1⟩ (hT.keep [7, 8, 33, 32, 6, 24, 5, 4, 18, 3, 14, 11, 0] rfl) (H.keep [3, 4, 5, 0, 1, 2, 6, 7, 8] rfl rfl))
                        · skip
                          refine Sx.tser_leaf ?_
                          refine Sx.st_run hT rfl rfl rfl rfl (Sx.y_loadS hT rfl Try.underlying35 Try.ti35 rfl ((H.blk 8 rfl).seg (k := 9) rfl) (by rfl)) ?_
                          clear hT; intro a hT
                          refine Sx.st_run hT rfl rfl rfl rfl (Sx.y_loadS hT rfl Try.underlying35 Try.ti35 rfl ((H.blk 7 rfl).seg (k := 9) rfl) (by rfl)) ?_
                          clear hT; intro a hT
                          refine Sx.st_call hT rfl rfl rfl rfl rfl Try.can21 rfl (Fragment_calls (⟨o.f.rg, o.f.at_, o.f.t, o.f.s, ad7, c7, o.f.ws⟩ : Fr) o.f ((H.row 6 rfl).ssn rfl) (RMx.at H.ext) (by show o.f.ws.length ≤ _; omega)) ?_
                          rintro _ w23 ⟨rfl, E⟩
                          refine ⟨_, rfl, ?_⟩
                          clear hT; intro a hT
                          replace H := H.pure E; clear E
                          rw [decide_eq_true (show Fr.p (⟨o.f.rg, o.f.at_, o.f.t, o.f.s, ad7, c7, o.f.ws⟩ : Fr) = Fr.p o.f from rfl)] at hT
                          refine Sx.st_take hT rfl rfl rfl rfl (Sx.x_pick_t hT rfl rfl rfl) ?_
                          clear hT; intro a hT
                          refine Sx.st_take hT rfl rfl rfl rfl (Sx.x_assign hT rfl rfl) ?_
                          clear hT; intro a hT
                          replace hT := hT.keep [7, 8, 33, 32, 6, 24, 5, 4, 18, 3, 14, 11, 0] rfl
                          refine Sx.ser_calm ?_
                          exact Sx.then_normal (hJK28 (L1, ad9, c9, M1, ad0b, adb, cb) _ _ ⟨hp1, hLM1⟩ (hT.keep [7, 8, 33, 32, 6, 24, 5, 4, 18, 3, 14, 11, 0] rfl) (H.keep [3, 4, 5, 0, 1, 2, 6, 7, 8] rfl rfl))
                      · exfalso
                        try simp only [decide_eq_true_eq, decide_eq_false_iff_not, Bool.not_eq_true', Bool.not_eq_false', Bool.not_eq_true, Bool.not_eq_false, Bool.and_eq_true, Bool.or_eq_false_iff, beq_iff_eq, bne_iff_ne, Int.not_lt, Int.not_le, ne_eq] at hc35
                        first | exact hc35 rfl | simp at hc35
                    · skip
                      refine Sx.tser_node ?_
                      refine Sx.st_run hT rfl rfl rfl rfl (Sx.y_loadS hT rfl Try.underlying35 Try.ti35 rfl ((H.blk 2 rfl).seg (k := 9) rfl) (by rfl)) ?_
                      clear hT; intro a hT
                      refine Sx.st_call hT rfl rfl rfl rfl rfl Try.can11 rfl (Add_calls (⟨o.f.rg, o.f.at_, o.f.t, o.f.s, ad7, c7, o.f.ws⟩ : Fr) (H.pre [3, 4, 5] rfl rfl) ((H.lend 0 rfl [3, 4, 5] rfl rfl).mono fun u h => h.ssn rfl) (rownil (H.row 0 rfl)) (by show o.f.ws.length ≤ _; omega) hHd (by omega)) ?_
                      rintro _ w24 ⟨ad9, c9, L1, rfl, K, hp1⟩
                      refine ⟨_, rfl, ?_⟩
                      clear hT; intro a hT
                      replace H := H.back [3, 4, 5] [0, 1, 2, 6, 7, 8] rfl rfl rfl K rfl; clear K
                      have hp1 : L1.map Fr.p = addL (L.map Fr.p) o.f.p := hp1
                      refine Sx.st_call hT rfl rfl rfl rfl rfl Try.can20 rfl (xAdd_calls o.f (H.pre [6, 7, 8] rfl rfl) (H.ro RMx [6, 7, 8] rfl) (by omega) (by rw [← hLM]; exact hHd) (by omega)) ?_
                      rintro _ w25 ⟨ad0b, adb, cb, M1, rfl, K, hp2⟩
                      refine ⟨_, rfl, ?_⟩
                      clear hT; intro a hT
                      replace H := H.back [6, 7, 8] [0, 1, 2, 3, 4, 5] rfl rfl rfl K rfl; clear K
                      rw [← hLM] at hT hp2
                      have hLM1 : L1.map Fr.p = M1.map Fr.p := hp1.trans hp2.symm
                      refine Sx.st_take hT rfl rfl rfl rfl ((fun w => Sx.x_eq w hT rfl rfl rfl)) ?_
                      clear hT; intro a hT
                      refine Sx.st_take hT rfl rfl rfl rfl (Sx.x_pick_t hT rfl rfl rfl) ?_
                      clear hT; intro a hT
                      refine Sx.st_take hT rfl rfl rfl rfl (Sx.x_move hT rfl rfl) ?_
                      clear hT; intro a hT
                      -- guard (18, 16)
                      refine Sx.Sl.two hT 58 rfl (fun hc36 hT => ?_) (fun hc36 hT => ?_)
                      · try simp only [decide_eq_true_eq, decide_eq_false_iff_not, Bool.not_eq_true', Bool.not_eq_false', Bool.not_eq_true, Bool.not_eq_false, Bool.and_eq_true, Bool.or_eq_false_iff, beq_iff_eq, bne_iff_ne, Int.not_lt, Int.not_le, ne_eq] at hc36
                        refine Sx.st_take hT rfl rfl rfl rfl (Sx.x_fieldAddr hT rfl Try.fa37_2 rfl) ?_
                        clear hT; intro a hT
                        refine Sx.ser_forkT ?_ ?_
                        · skip
                          refine Sx.tser_leaf ?_
                          refine Sx.st_run hT rfl rfl rfl rfl (Sx.y_loadS hT rfl Try.underlying35 Try.ti35 rfl ((H.blk 7 rfl).seg (k := 9) rfl) (by rfl)) ?_
                          clear hT; intro a hT
                          refine Sx.st_run hT rfl rfl rfl rfl (Sx.y_loadS hT rfl Try.underlying35 Try.ti35 rfl ((H.blk 8 rfl).seg (k := 9) rfl) (by rfl)) ?_
                          clear hT; intro a hT
                          refine Sx.st_call hT rfl rfl rfl rfl rfl Try.can21 rfl (Fragment_calls (⟨o.f.rg, o.f.at_, o.f.t, o.f.s, ad7, c7, o.f.ws⟩ : Fr) o.f ((H.row 6 rfl).ssn rfl) (RMx.at H.ext) (by show o.f.ws.length ≤ _; omega)) ?_
                          rintro _ w26 ⟨rfl, E⟩
                          refine ⟨_, rfl, ?_⟩
                          clear hT; intro a hT
                          replace H := H.pure E; clear E
                          rw [decide_eq_true (show Fr.p (⟨o.f.rg, o.f.at_, o.f.t, o.f.s, ad7, c7, o.f.ws⟩ : Fr) = Fr.p o.f from rfl)] at hT
                          refine Sx.st_take hT rfl rfl rfl rfl (Sx.x_pick_t hT rfl rfl rfl) ?_
                          clear hT; intro a hT
                          refine Sx.st_take hT rfl rfl rfl rfl (Sx.x_assign hT rfl rfl) ?_
                          clear hT; intro a hT
                          replace hT := hT.keep [7, 8, 33, 32, 6, 24, 5, 4, 18, 3, 14, 11, 0] rfl
                          refine Sx.ser_calm ?_
                          exact Sx.then_normal (hJK28 (L1, ad9, c9, M1, ad0b, adb, cb) _ _ ⟨hp1, hLM1⟩ (hT.keep [7, 8, 33, 32, 6, 24, 5, 4, 18, 3, 14, 11, 0] rfl) (H.keep [3, 4, 5, 0, 1, 2, 6, 7, 8] rfl rfl))
                        · skip
                          refine Sx.tser_leaf ?_
                          refine Sx.st_run hT rfl rfl rfl rfl (Sx.y_loadS hT rfl Try.underlying35 Try.ti35 rfl ((H.blk 8 rfl).seg (k := 9) rfl) (by rfl)) ?_
                          clear hT; intro a hT
                          refine Sx.st_run hT rfl rfl rfl rfl (Sx.y_loadS hT rfl Try.underlying35 Try.ti35 rfl ((H.blk 7 rfl).seg (k := 9) rfl) (by rfl)) ?_
                          clear hT; intro a hT
                          refine Sx.st_call hT rfl rfl rfl rfl rfl Try.can21 rfl (Fragment_calls (⟨o.f.rg, o.f.at_, o.f.t, o.f.s, ad7, c7, o.f.ws⟩ : Fr) o.f ((H.row 6 rfl).ssn rfl) (RMx.at H.ext) (by show o.f.ws.length ≤ _; omega)) ?_
                          rintro _ w27 ⟨rfl, E⟩
                          refine ⟨_, rfl, ?_⟩
                          clear hT; intro a hT
                          replace H := H.pure E; clear E
                          rw [decide_eq_true (show Fr.p (⟨o.f.rg, o.f.at_, o.f.t, o.f.s, ad7, c7, o.f.ws⟩ : Fr) = Fr.p o.f from rfl)] at hT
                          refine Sx.st_take hT rfl rfl rfl rfl (Sx.x_pick_t hT rfl rfl rfl) ?_
                          clear hT; intro a hT
                          refine Sx.st_take hT rfl rfl rfl rfl (Sx.x_assign hT rfl rfl) ?_
                          clear hT; intro a hT
                          replace hT := hT.keep [7, 8, 33, 32, 6, 24, 5, 4, 18, 3, 14, 11, 0] rfl
                          refine Sx.ser_calm ?_
                          exact Sx.then_normal (hJK28 (L1, ad9, c9, M1, ad0b, adb, cb) _ _ ⟨hp1, hLM1⟩ (hT.keep [7, 8, 33, 32, 6, 24, 5, 4, 18, 3, 14, 11, 0] rfl) (H.keep [3, 4, 5, 0, 1, 2, 6, 7, 8] rfl rfl))
                      · exfalso
                        try simp only [decide_eq_true_eq, decide_eq_false_iff_not, Bool.not_eq_true', Bool.not_eq_false', Bool.not_eq_true, Bool.not_eq_false, Bool.and_eq_true, Bool.or_eq_false_iff, beq_iff_eq, bne_iff_ne, Int.not_lt, Int.not_le, ne_eq] at hc36
                        first | exact hc36 rfl | simp at hc36
                  · skip
                    refine Sx.tser_node ?_
                    refine Sx.st_run hT rfl rfl rfl rfl (Sx.y_loadS hT rfl Try.underlying35 Try.ti35 rfl ((H.blk 2 rfl).seg (k := 9) rfl) (by rfl)) ?_
                    clear hT; intro a hT
                    refine Sx.st_run hT rfl rfl rfl rfl (Sx.y_loadS hT rfl Try.underlying35 Try.ti35 rfl ((H.blk 1 rfl).seg (k := 9) rfl) (by rfl)) ?_
                    clear hT; intro a hT
                    refine Sx.st_call hT rfl rfl rfl rfl rfl Try.can11 rfl (Add_calls (⟨o.f.rg, o.f.at_, o.f.t, o.f.s, ad7, c7, o.f.ws⟩ : Fr) (H.pre [3, 4, 5] rfl rfl) ((H.lend 0 rfl [3, 4, 5] rfl rfl).mono fun u h => h.ssn rfl) (rownil (H.row 0 rfl)) (by show o.f.ws.length ≤ _; omega) hHd (by omega)) ?_
                    rintro _ w28 ⟨ad9, c9, L1, rfl, K, hp1⟩
                    refine ⟨_, rfl, ?_⟩
                    clear hT; intro a hT
                    replace H := H.back [3, 4, 5] [0, 1, 2, 6, 7, 8] rfl rfl rfl K rfl; clear K
                    have hp1 : L1.map Fr.p = addL (L.map Fr.p) o.f.p := hp1
                    refine Sx.st_call hT rfl rfl rfl rfl rfl Try.can20 rfl (xAdd_calls o.f (H.pre [6, 7, 8] rfl rfl) (H.ro RMx [6, 7, 8] rfl) (by omega) (by rw [← hLM]; exact hHd) (by omega)) ?_
                    rintro _ w29 ⟨ad0b, adb, cb, M1, rfl, K, hp2⟩
                    refine ⟨_, rfl, ?_⟩
                    clear hT; intro a hT
                    replace H := H.back [6, 7, 8] [0, 1, 2, 3, 4, 5] rfl rfl rfl K rfl; clear K
                    rw [← hLM] at hT hp2
                    have hLM1 : L1.map Fr.p = M1.map Fr.p := hp1.trans hp2.symm
                    refine Sx.st_take hT rfl rfl rfl rfl ((fun w => Sx.x_eq w hT rfl rfl rfl)) ?_
                    clear hT; intro a hT
                    refine Sx.st_take hT rfl rfl rfl rfl (Sx.x_pick_t hT rfl rfl rfl) ?_
                    clear hT; intro a hT
                    refine Sx.st_take hT rfl rfl rfl rfl (Sx.x_move hT rfl rfl) ?_
                    clear hT; intro a hT
                    -- guard (18, 16)
                    refine Sx.Sl.two hT 58 rfl (fun hc37 hT => ?_) (fun hc37 hT => ?_)
                    · try simp only [decide_eq_true_eq, decide_eq_false_iff_not, Bool.not_eq_true', Bool.not_eq_false', Bool.not_eq_true, Bool.not_eq_false, Bool.and_eq_true, Bool.or_eq_false_iff, beq_iff_eq, bne_iff_ne, Int.not_lt, Int.not_le, ne_eq] at hc37
                      refine Sx.st_take hT rfl rfl rfl rfl (Sx.x_fieldAddr hT rfl Try.fa37_2 rfl) ?_
                      clear hT; intro a hT
                      refine Sx.ser_forkT ?_ ?_
                      · skip
                        refine Sx.tser_leaf ?_
                        refine Sx.st_run hT rfl rfl rfl rfl (Sx.y_loadS hT rfl Try.underlying35 Try.ti35 rfl ((H.blk 7 rfl).seg (k := 9) rfl) (by rfl)) ?_
                        clear hT; intro a hT
                        refine Sx.st_run hT rfl rfl rfl rfl (Sx.y_loadS hT rfl Try.underlying35 Try.ti35 rfl ((H.blk 8 rfl).seg (k := 9) rfl) (by rfl)) ?_
                        clear hT; intro a hT
                        refine Sx.st_call hT rfl rfl rfl rfl rfl Try.can21 rfl (Fragment_calls (⟨o.f.rg, o.f.at_, o.f.t, o.f.s, ad7, c7, o.f.ws⟩ : Fr) o.f ((H.row 6 rfl).ssn rfl) (RMx.at H.ext) (by show o.f.ws.length ≤ _; omega)) ?_
                        rintro _ w30 ⟨rfl, E⟩
                        refine ⟨_, rfl, ?_⟩
                        clear hT; intro a hT
                        replace H := H.pure E; clear E
                        rw [decide_eq_true (show Fr.p (⟨o.f.rg, o.f.at_, o.f.t, o.f.s, ad7, c7, o.f.ws⟩ : Fr) = Fr.p o.f from rfl)] at hT
                        refine Sx.st_take hT rfl rfl rfl rfl (Sx.x_pick_t hT rfl rfl rfl) ?_
                        clear hT; intro a hT
                        refine Sx.st_take hT rfl rfl rfl rfl (Sx.x_assign hT rfl rfl) ?_
                        clear hT; intro a hT
                        replace hT := hT.keep [7, 8, 33, 32, 6, 24, 5, 4, 18, 3, 14, 11, 0] rfl
                        refine Sx.ser_calm ?_
                        exact Sx.then_normal (hJK28 (L1, ad9, c9, M1, ad0b, adb, cb) _ _ ⟨hp1, hLM1⟩ (hT.keep [7, 8, 33, 32, 6, 24, 5, 4, 18, 3, 14, 11, 0] rfl) (H.keep [3, 4, 5, 0, 1, 2, 6, 7, 8] rfl rfl))
                      · skip
                        refine Sx.tser_leaf ?_
                        refine Sx.st_run hT rfl rfl rfl rfl (Sx.y_loadS hT rfl Try.underlying35 Try.ti35 rfl ((H.blk 8 rfl).seg (k := 9) rfl) (by rfl)) ?_
                        clear hT; intro a hT
                        refine Sx.st_run hT rfl rfl rfl rfl (Sx.y_loadS hT rfl Try.underlying35 Try.ti35 rfl ((H.blk 7 rfl).seg (k := 9) rfl) (by rfl)) ?_
                        clear hT; intro a hT
                        refine Sx.st_call hT rfl rfl rfl rfl rfl Try.can21 rfl (Fragment_calls (⟨o.f.rg, o.f.at_, o.f.t, o.f.s, ad7, c7, o.f.ws⟩ : Fr) o.f ((H.row 6 rfl).ssn rfl) (RMx.at H.ext) (by show o.f.ws.length ≤ _; omega)) ?_
                        rintro _ w31 ⟨rfl, E⟩
                        refine ⟨_, rfl, ?_⟩
                        clear hT; intro a hT
                        replace H := H.pure E; clear E
                        rw [decide_eq_true (show Fr.p (⟨o.f.rg, o.f.at_, o.f.t, o.f.s, ad7, c7, o.f.ws⟩ : Fr) = Fr.p o.f from rfl)] at hT
                        refine Sx.st_take hT rfl rfl rfl rfl (Sx.x_pick_t hT rfl rfl rfl) ?_
                        clear hT; intro a hT
                        refine Sx.st_take hT rfl rfl rfl rfl (Sx.x_assign hT rfl rfl) ?_
                        clear hT; intro a hT
                        replace hT := hT.keep [7, 8, 33, 32, 6, 24, 5, 4, 18, 3, 14, 11, 0] rfl
                        refine Sx.ser_calm ?_
                        exact Sx.then_normal (hJK28 (L1, ad9, c9, M1, ad0b, adb, cb) _ _ ⟨hp1, hLM1⟩ (hT.keep [7, 8, 33, 32, 6, 24, 5, 4, 18, 3, 14, 11, 0] rfl) (H.keep [3, 4, 5, 0, 1, 2, 6, 7, 8] rfl rfl))
                    · exfalso
                      try simp only [decide_eq_true_eq, decide_eq_false_iff_not, Bool.not_eq_true', Bool.not_eq_false', Bool.not_eq_true, Bool.not_eq_false, Bool.and_eq_true, Bool.or_eq_false_iff, beq_iff_eq, bne_iff_ne, Int.not_lt, Int.not_le, ne_eq] at hc37
                      first | exact hc37 rfl | simp at hc37
                · exfalso
                  try simp only [decide_eq_true_eq, decide_eq_false_iff_not, Bool.not_eq_true', Bool.not_eq_false', Bool.not_eq_true, Bool.not_eq_false, Bool.and_eq_true, Bool.or_eq_false_iff, beq_iff_eq, bne_iff_ne, Int.not_lt, Int.not_le, ne_eq] at hc34
                  rw [beq_eq_false_iff_ne] at hc34; exact hc34 (congrArg mayF (show Fr.p (⟨o.f.rg, o.f.at_, o.f.t, o.f.s, ad7, c7, o.f.ws⟩ : Fr) = Fr.p o.f from rfl))
              · skip
                refine Sx.tser_node ?_
                refine Sx.st_run hT rfl rfl rfl rfl (Sx.y_loadS hT rfl Try.underlying35 Try.ti35 rfl ((H.blk 2 rfl).seg (k := 9) rfl) (by rfl)) ?_
                clear hT; intro a hT
                refine Sx.st_call hT rfl rfl rfl rfl rfl Try.can18 rfl (SMay_calls (⟨o.f.rg, o.f.at_, o.f.t, o.f.s, ad7, c7, o.f.ws⟩ : Fr) ((H.row 0 rfl).ssn rfl) (by show o.f.ws.length ≤ _; omega)) ?_
                rintro _ w32 ⟨rfl, E⟩
                refine ⟨_, rfl, ?_⟩
                clear hT; intro a hT
                replace H := H.pure E; clear E
                refine Sx.st_call hT rfl rfl rfl rfl rfl Try.can19 rfl (xSMay_calls o.f (RMx.at H.ext) (by omega)) ?_
                rintro _ w33 ⟨rfl, E⟩
                refine ⟨_, rfl, ?_⟩
                clear hT; intro a hT
                replace H := H.pure E; clear E
                refine Sx.st_take hT rfl rfl rfl rfl (Sx.x_eqb hT rfl Try.underlying4 rfl rfl) ?_
                clear hT; intro a hT
                refine Sx.st_take hT rfl rfl rfl rfl (Sx.x_move hT rfl rfl) ?_
                clear hT; intro a hT
                -- guard (18, 6)
                refine Sx.Sl.two hT 48 rfl (fun hc38 hT => ?_) (fun hc38 hT => ?_)
                · try simp only [decide_eq_true_eq, decide_eq_false_iff_not, Bool.not_eq_true', Bool.not_eq_false', Bool.not_eq_true, Bool.not_eq_false, Bool.and_eq_true, Bool.or_eq_false_iff, beq_iff_eq, bne_iff_ne, Int.not_lt, Int.not_le, ne_eq] at hc38
                  refine Sx.st_take hT rfl rfl rfl rfl (Sx.x_move hT rfl rfl) ?_
                  clear hT; intro a hT
                  refine Sx.st_take hT rfl rfl rfl rfl (Sx.x_move hT rfl rfl) ?_
                  clear hT; intro a hT
                  refine Sx.st_take hT rfl rfl rfl rfl (Sx.x_fieldAddr hT rfl Try.fa37_2 rfl) ?_
                  clear hT; intro a hT
                  refine Sx.ser_forkT ?_ ?_
                  · skip
                    refine Sx.tser_node ?_
                    refine Sx.st_run hT rfl rfl rfl rfl (Sx.y_loadS hT rfl Try.underlying35 Try.ti35 rfl ((H.blk 1 rfl).seg (k := 9) rfl) (by rfl)) ?_
                    clear hT; intro a hT
                    refine Sx.ser_forkT ?_ ?_
                    · skip
                      refine Sx.tser_node ?_
                      refine Sx.st_call hT rfl rfl rfl rfl rfl Try.can11 rfl (Add_calls (⟨o.f.rg, o.f.at_, o.f.t, o.f.s, ad7, c7, o.f.ws⟩ : Fr) (H.pre [3, 4, 5] rfl rfl) ((H.lend 0 rfl [3, 4, 5] rfl rfl).mono fun u h => h.ssn rfl) (rownil (H.row 0 rfl)) (by show o.f.ws.length ≤ _; omega) hHd (by omega)) ?_
                      rintro _ w34 ⟨ad9, c9, L1, rfl, K, hp1⟩
                      refine ⟨_, rfl, ?_⟩
                      clear hT; intro a hT
                      replace H := H.back [3, 4, 5] [0, 1, 2, 6, 7, 8] rfl rfl rfl K rfl; clear K
                      have hp1 : L1.map Fr.p = addL (L.map Fr.p) o.f.p := hp1
                      refine Sx.st_run hT rfl rfl rfl rfl (Sx.y_loadS hT rfl Try.underlying35 Try.ti35 rfl ((H.blk 5 rfl).seg (k := 9) rfl) (by rfl)) ?_
                      clear hT; intro a hT
                      refine Sx.st_call hT rfl rfl rfl rfl rfl Try.can20 rfl (xAdd_calls o.f (H.pre [6, 7, 8] rfl rfl) (H.ro RMx [6, 7, 8] rfl) (by omega) (by rw [← hLM]; exact hHd) (by omega)) ?_
                      rintro _ w35 ⟨ad0b, adb, cb, M1, rfl, K, hp2⟩
                      refine ⟨_, rfl, ?_⟩
                      clear hT; intro a hT
                      replace H := H.back [6, 7, 8] [0, 1, 2, 3, 4, 5] rfl rfl rfl K rfl; clear K
                      rw [← hLM] at hT hp2
                      have hLM1 : L1.map Fr.p = M1.map Fr.p := hp1.trans hp2.symm
                      refine Sx.st_take hT rfl rfl rfl rfl ((fun w => Sx.x_eq w hT rfl rfl rfl)) ?_
                      clear hT; intro a hT
                      refine Sx.st_take hT rfl rfl rfl rfl (Sx.x_pick_t hT rfl rfl rfl) ?_
                      clear hT; intro a hT
                      refine Sx.st_take hT rfl rfl rfl rfl (Sx.x_move hT rfl rfl) ?_
                      clear hT; intro a hT
                      -- guard (18, 16)
                      refine Sx.Sl.two hT 58 rfl (fun hc39 hT => ?_) (fun hc39 hT => ?_)
                      · try simp only [decide_eq_true_eq, decide_eq_false_iff_not, Bool.not_eq_true', Bool.not_eq_false', Bool.not_eq_true, Bool.not_eq_false, Bool.and_eq_true, Bool.or_eq_false_iff, beq_iff_eq, bne_iff_ne, Int.not_lt, Int.not_le, ne_eq] at hc39
                        refine Sx.st_take hT rfl rfl rfl rfl (Sx.x_fieldAddr hT rfl Try.fa37_2 rfl) ?_
                        clear hT; intro a hT
                        refine Sx.ser_forkT ?_ ?_
                        · skip
                          refine Sx.tser_leaf ?_
                          refine Sx.st_run hT rfl rfl rfl rfl (Sx.y_loadS hT rfl Try.underlying35 Try.ti35 rfl ((H.blk 7 rfl).seg (k := 9) rfl) (by rfl)) ?_
                          clear hT; intro a hT
                          refine Sx.st_run hT rfl rfl rfl rfl (Sx.y_loadS hT rfl Try.underlying35 Try.ti35 rfl ((H.blk 8 rfl).seg (k := 9) rfl) (by rfl)) ?_
                          clear hT; intro a hT
                          refine Sx.st_call hT rfl rfl rfl rfl rfl Try.can21 rfl (Fragment_calls (⟨o.f.rg, o.f.at_, o.f.t, o.f.s, ad7, c7, o.f.ws⟩ : Fr) o.f ((H.row 6 rfl).ssn rfl) (RMx.at H.ext) (by show o.f.ws.length ≤ _; omega)) ?_
                          rintro _ w36 ⟨rfl, E⟩
                          refine ⟨_, rfl, ?_⟩
                          clear hT; intro a hT
                          replace H := H.pure E; clear E
                          rw [decide_eq_true (show Fr.p (⟨o.f.rg, o.f.at_, o.f.t, o.f.s, ad7, c7, o.f.ws⟩ : Fr) = Fr.p o.f from rfl)] at hT
                          refine Sx.st_take hT rfl rfl rfl rfl (Sx.x_pick_t hT rfl rfl rfl) ?_
                          clear hT; intro a hT
                          refine Sx.st_take hT rfl rfl rfl rfl (Sx.x_assign hT rfl rfl) ?_
                          clear hT; intro a hT
                          replace hT := hT.keep [7, 8, 33, 32, 6, 24, 5, 4, 18, 3, 14, 11, 0] rfl
                          refine Sx.ser_calm ?_
                          exact Sx.then_normal (hJK28 (L1, ad9, c9, M1, ad0b, adb, cb) _ _ ⟨hp1, hLM1⟩ (hT.keep [7, 8, 33, 32, 6, 24, 5, 4, 18, 3, 14, 11, 0] rfl) (H.keep [3, 4, 5, 0, 1, 2, 6, 7, 8] rfl rfl))
                        · skip
                          refine Sx.tser_leaf ?_
                          refine Sx.st_run hT rfl rfl rfl rfl (Sx.y_loadS hT rfl Try.underlying35 Try.ti35 rfl ((H.blk 8 rfl).seg (k := 9) rfl) (by rfl)) ?_
                          clear hT; intro a hT
                          refine Sx.st_run hT rfl rfl rfl rfl (Sx.y_loadS hT rfl Try.underlying35 Try.ti35 rfl ((H.blk 7 rfl).seg (k := 9) rfl) (by rfl)) ?_
                          clear hT; intro a hT
                          refine Sx.st_call hT rfl rfl rfl rfl rfl Try.can21 rfl (Fragment_calls (⟨o.f.rg, o.f.at_, o.f.t, o.f.s, ad7, c7, o.f.ws⟩ : Fr) o.f ((H.row 6 rfl).ssn rfl) (RMx.at H.ext) (by show o.f.ws.length ≤ _; omega)) ?_
                          rintro _ w37 ⟨rfl, E⟩
                          refine ⟨_, rfl, ?_⟩
                          clear hT; intro a hT
                          replace H := H.pure E; clear E
                          rw [decide_eq_true (show Fr.p (⟨o.f.rg, o.f.at_, o.f.t, o.f.s, ad7, c7, o.f.ws⟩ : Fr) = Fr.p o.f from rfl)] at hT
                          refine Sx.st_take hT rfl rfl rfl rfl (Sx.x_pick_t hT rfl rfl rfl) ?_
                          clear hT; intro a hT
                          refine Sx.st_take hT rfl rfl rfl rfl (Sx.x_assign hT rfl rfl) ?_
                          clear hT; intro a hT
                          replace hT := hT.keep [7, 8, 33, 32, 6, 24, 5, 4, 18, 3, 14, 11, 0] rfl
                          refine Sx.ser_calm ?_
                          exact Sx.then_normal (hJK28 (L1, ad9, c9, M1, ad0b, adb, cb) _ _ ⟨hp1, hLM1⟩ (hT.keep [7, 8, 33, 32, 6, 24, 5, 4, 18, 3, 14, 11, 0] rfl) (H.keep [3, 4, 5, 0, 1, 2, 6, 7, 8] rfl rfl))
                      · exfalso
                        try simp only [decide_eq_true_eq, decide_eq_false_iff_not, Bool.not_eq_true', Bool.not_eq_false', Bool.not_eq_true, Bool.not_eq_false, Bool.and_eq_true, Bool.or_eq_false_iff, beq_iff_eq, bne_iff_ne, Int.not_lt, Int.not_le, ne_eq] at hc39
                        first | exact hc39 rfl | simp at hc39
                    · skip
                      refine Sx.tser_node ?_
                      refine Sx.st_run hT rfl rfl rfl rfl (Sx.y_loadS hT rfl Try.underlying35 Try.ti35 rfl ((H.blk 2 rfl).seg (k := 9) rfl) (by rfl)) ?_
                      clear hT; intro a hT
                      refine Sx.st_call hT rfl rfl rfl rfl rfl Try.can11 rfl (Add_calls (⟨o.f.rg, o.f.at_, o.f.t, o.f.s, ad7, c7, o.f.ws⟩ : Fr) (H.pre [3, 4, 5] rfl rfl) ((H.lend 0 rfl [3, 4, 5] rfl rfl).mono fun u h => h.ssn rfl) (rownil (H.row 0 rfl)) (by show o.f.ws.length ≤ _; omega) hHd (by omega)) ?_
                      rintro _ w38 ⟨ad9, c9, L1, rfl, K, hp1⟩
                      refine ⟨_, rfl, ?_⟩
                      clear hT; intro a hT
                      replace H := H.back [3, 4, 5] [0, 1, 2, 6, 7, 8] rfl rfl rfl K rfl; clear K
                      have hp1 : L1.map Fr.p = addL (L.map Fr.p) o.f.p := hp1
                      refine Sx.st_call hT rfl rfl rfl rfl rfl Try.can20 rfl (xAdd_calls o.f (H.pre [6, 7, 8] rfl rfl) (H.ro RMx [6, 7, 8] rfl) (by omega) (by rw [← hLM]; exact hHd) (by omega)) ?_
                      rintro _ w39 ⟨ad0b, adb, cb, M1, rfl, K, hp2⟩
                      refine ⟨_, rfl, ?_⟩
                      clear hT; intro a hT
                      replace H := H.back [6, 7, 8] [0, 1, 2, 3, 4, 5] rfl rfl rfl K rfl; clear K
                      rw [← hLM] at hT hp2
                      have hLM1 : L1.map Fr.p = M1.map Fr.p := hp1.trans hp2.symm
                      refine Sx.st_take hT rfl rfl rfl rfl ((fun w => Sx.x_eq w hT rfl rfl rfl)) ?_
                      clear hT; intro a hT
                      refine Sx.st_take hT rfl rfl rfl rfl (Sx.x_pick_t hT rfl rfl rfl) ?_
                      clear hT; intro a hT
                      refine Sx.st_take hT rfl rfl rfl rfl (Sx.x_move hT rfl rfl) ?_
                      clear hT; intro a hT
                      -- guard (18, 16)
                      refine Sx.Sl.two hT 58 rfl (fun hc40 hT => ?_) (fun hc40 hT => ?_)
                      · try simp only [decide_eq_true_eq, decide_eq_false_iff_not, Bool.not_eq_true', Bool.not_eq_false', Bool.not_eq_true, Bool.not_eq_false, Bool.and_eq_true, Bool.or_eq_false_iff, beq_iff_eq, bne_iff_ne, Int.not_lt, Int.not_le, ne_eq] at hc40
                        refine Sx.st_take hT rfl rfl rfl rfl (Sx.x_fieldAddr hT rfl Try.fa37_2 rfl) ?_
                        clear hT; intro a hT
                        refine Sx.ser_forkT ?_ ?_
                        · skip
                          refine Sx.tser_leaf ?_
                          refine Sx.st_run hT rfl rfl rfl rfl (Sx.y_loadS hT rfl Try.underlying35 Try.ti35 rfl ((H.blk 7 rfl).seg (k := 9) rfl) (by rfl)) ?_
                          clear hT; intro a hT
                          refine Sx.st_run hT rfl rfl rfl rfl (Sx.y_loadS hT rfl Try.underlying35 Try.ti35 rfl ((H.blk 8 rfl).seg (k := 9) rfl) (by rfl)) ?_
                          clear hT; intro a hT
                          refine Sx.st_call hT rfl rfl rfl rfl rfl Try.can21 rfl (Fragment_calls (⟨o.f.rg, o.f.at_, o.f.t, o.f.s, ad7, c7, o.f.ws⟩ : Fr) o.f ((H.row 6 rfl).ssn rfl) (RMx.at H.ext) (by show o.f.ws.length ≤ _; omega)) ?_
                          rintro _ w40 ⟨rfl, E⟩
                          refine ⟨_, rfl, ?_⟩
                          clear hT; intro a hT
                          replace H := H.pure E; clear E
                          rw [decide_eq_true (show Fr.p (⟨o.f.rg, o.f.at_, o.f.t, o.f.s, ad7, c7, o.f.ws⟩ : Fr) = Fr.p o.f from rfl)] at hT
                          refine Sx.st_take hT rfl rfl rfl rfl (Sx.x_pick_t hT rfl rfl rfl) ?_
                          clear hT; intro a hT
                          refine Sx.st_take hT rfl rfl rfl rfl (Sx.x_assign hT rfl rfl) ?_
                          clear hT; intro a hT
                          replace hT := hT.keep [7, 8, 33, 32, 6, 24, 5, 4, 18, 3, 14, 11, 0] rfl
                          refine Sx.ser_calm ?_
                          exact Sx.then_normal (hJK28 (L1, ad9, c9, M1, ad0b, adb, cb) _ _ ⟨hp1, hLM1⟩ (hT.keep [7, 8, 33, 32, 6, 24, 5, 4, 18, 3, 14, 11, 0] rfl) (H.keep [3, 4, 5, 0, 1, 2, 6, 7, 8] rfl rfl))
                        · skip
                          refine Sx.tser_leaf ?_
                          refine Sx.st_run hT rfl rfl rfl rfl (Sx.y_loadS hT rfl Try.underlying35 Try.ti35 rfl ((H.blk 8 rfl).seg (k := 9) rfl) (by rfl)) ?_
                          clear hT; intro a hT
                          refine Sx.st_run hT rfl rfl rfl rfl (Sx.y_loadS hT rfl Try.underlying35 Try.ti35 rfl ((H.blk 7 rfl).seg (k := 9) rfl) (by rfl)) ?_
                          clear hT; intro a hT
                          refine Sx.st_call hT rfl rfl rfl rfl rfl Try.can21 rfl (Fragment_calls (⟨o.f.rg, o.f.at_, o.f.t, o.f.s, ad7, c7, o.f.ws⟩ : Fr) o.f ((H.row 6 rfl).ssn rfl) (RMx.at H.ext) (by show o.f.ws.length ≤ _; omega)) ?_
                          rintro _ w41 ⟨rfl, E⟩
                          refine ⟨_, rfl, ?_⟩
                          clear hT; intro a hT
                          replace H := H.pure E; clear E
                          rw [decide_eq_true (show Fr.p (⟨o.f.rg, o.f.at_, o.f.t, o.f.s, ad7, c7, o.f.ws⟩ : Fr) = Fr.p o.f from rfl)] at hT
                          refine Sx.st_take hT rfl rfl rfl rfl (Sx.x_pick_t hT rfl rfl rfl) ?_
                          clear hT; intro a hT
                          refine Sx.st_take hT rfl rfl rfl rfl (Sx.x_assign hT rfl rfl) ?_
                          clear hT; intro a hT
                          replace hT := hT.keep [7, 8, 33, 32, 6, 24, 5, 4, 18, 3, 14, 11, 0] rfl
                          refine Sx.ser_calm ?_
                          exact Sx.then_normal (hJK28 (L1, ad9, c9, M1, ad0b, adb, cb) _ _ ⟨hp1, hLM1⟩ (hT.keep [7, 8, 33, 32, 6, 24, 5, 4, 18, 3, 14, 11, 0] rfl) (H.keep [3, 4, 5, 0, 1, 2, 6, 7, 8] rfl rfl))
                      · exfalso
                        try simp only [decide_eq_true_eq, decide_eq_false_iff_not, Bool.not_eq_true', Bool.not_eq_false', Bool.not_eq_true, Bool.not_eq_false, Bool.and_eq_true, Bool.or_eq_false_iff, beq_iff_eq, bne_iff_ne, Int.not_lt, Int.not_le, ne_eq] at hc40
                        first | exact hc40 rfl | simp at hc40
                  · skip
                    refine Sx.tser_node ?_
                    refine Sx.st_run hT rfl rfl rfl rfl (Sx.y_loadS hT rfl Try.underlying35 Try.ti35 rfl ((H.blk 2 rfl).seg (k := 9) rfl) (by rfl)) ?_
                    clear hT; intro a hT
                    refine Sx.st_run hT rfl rfl rfl rfl (Sx.y_loadS hT rfl Try.underlying35 Try.ti35 rfl ((H.blk 1 rfl).seg (k := 9) rfl) (by rfl)) ?_
                    clear hT; intro a hT
                    refine Sx.st_call hT rfl rfl rfl rfl rfl Try.can11 rfl (Add_calls (⟨o.f.rg, o.f.at_, o.f.t, o.f.s, ad7, c7, o.f.ws⟩ : Fr) (H.pre [3, 4, 5] rfl rfl) ((H.lend 0 rfl [3, 4, 5] rfl rfl).mono fun u h => h.ssn rfl) (rownil (H.row 0 rfl)) (by show o.f.ws.length ≤ _; omega) hHd (by omega)) ?_
                    rintro _ w42 ⟨ad9, c9, L1, rfl, K, hp1⟩
                    refine ⟨_, rfl, ?_⟩
                    clear hT; intro a hT
                    replace H := H.back [3, 4, 5] [0, 1, 2, 6, 7, 8] rfl rfl rfl K rfl; clear K
                    have hp1 : L1.map Fr.p = addL (L.map Fr.p) o.f.p := hp1
                    refine Sx.st_call hT rfl rfl rfl rfl rfl Try.can20 rfl (xAdd_calls o.f (H.pre [6, 7, 8] rfl rfl) (H.ro RMx [6, 7, 8] rfl) (by omega) (by rw [← hLM]; exact hHd) (by omega)) ?_
                    rintro _ w43 ⟨ad0b, adb, cb, M1, rfl, K, hp2⟩
                    refine ⟨_, rfl, ?_⟩
                    clear hT; intro a hT
                    replace H := H.back [6, 7, 8] [0, 1, 2, 3, 4, 5] rfl rfl rfl K rfl; clear K
                    rw [← hLM] at hT hp2
                    have hLM1 : L1.map Fr.p = M1.map Fr.p := hp1.trans hp2.symm
                    refine Sx.st_take hT rfl rfl rfl rfl ((fun w => Sx.x_eq w hT rfl rfl rfl)) ?_
                    clear hT; intro a hT
                    refine Sx.st_take hT rfl rfl rfl rfl (Sx.x_pick_t hT rfl rfl rfl) ?_
                    clear hT; intro a hT
                    refine Sx.st_take hT rfl rfl rfl rfl (Sx.x_move hT rfl rfl) ?_
                    clear hT; intro a hT
                    -- guard (18, 16)
                    refine Sx.Sl.two hT 58 rfl (fun hc41 hT => ?_) (fun hc41 hT => ?_)
                    · try simp only [decide_eq_true_eq, decide_eq_false_iff_not, Bool.not_eq_true', Bool.not_eq_false', Bool.not_eq_true, Bool.not_eq_false, Bool.and_eq_true, Bool.or_eq_false_iff, beq_iff_eq, bne_iff_ne, Int.not_lt, Int.not_le, ne_eq] at hc41
                      refine Sx.st_take hT rfl rfl rfl rfl (Sx.x_fieldAddr hT rfl Try.fa37_2 rfl) ?_
                      clear hT; intro a hT
                      refine Sx.ser_forkT ?_ ?_
                      · skip
                        refine Sx.tser_leaf ?_
                        refine Sx.st_run hT rfl rfl rfl rfl (Sx.y_loadS hT rfl Try.underlying35 Try.ti35 rfl ((H.blk 7 rfl).seg (k := 9) rfl) (by rfl)) ?_
                        clear hT; intro a hT
                        refine Sx.st_run hT rfl rfl rfl rfl (Sx.y_loadS hT rfl Try.underlying35 Try.ti35 rfl ((H.blk 8 rfl).seg (k := 9) rfl) (by rfl)) ?_
                        clear hT; intro a hT
                        refine Sx.st_call hT rfl rfl rfl rfl rfl Try.can21 rfl (Fragment_calls (⟨o.f.rg, o.f.at_, o.f.t, o.f.s, ad7, c7, o.f.ws⟩ : Fr) o.f ((H.row 6 rfl).ssn rfl) (RMx.at H.ext) (by show o.f.ws.length ≤ _; omega)) ?_
                        rintro _ w44 ⟨rfl, E⟩
                        refine ⟨_, rfl, ?_⟩
                        clear hT; intro a hT
                        replace H := H.pure E; clear E
                        rw [decide_eq_true (show Fr.p (⟨o.f.rg, o.f.at_, o.f.t, o.f.s, ad7, c7, o.f.ws⟩ : Fr) = Fr.p o.f from rfl)] at hT
                        refine Sx.st_take hT rfl rfl rfl rfl (Sx.x_pick_t hT rfl rfl rfl) ?_
                        clear hT; intro a hT
                        refine Sx.st_take hT rfl rfl rfl rfl (Sx.x_assign hT rfl rfl) ?_
                        clear hT; intro a hT
                        replace hT := hT.keep [7, 8, 33, 32, 6, 24, 5, 4, 18, 3, 14, 11, 0] rfl
                        refine Sx.ser_calm ?_
                        exact Sx.then_normal (hJK28 (L1, ad9, c9, M1, ad0b, adb, cb) _ _ ⟨hp1, hLM1⟩ (hT.keep [7, 8, 33, 32, 6, 24, 5, 4, 18, 3, 14, 11, 0] rfl) (H.keep [3, 4, 5, 0, 1, 2, 6, 7, 8] rfl rfl))
                      · skip
                        refine Sx.tser_leaf ?_
                        refine Sx.st_run hT rfl rfl rfl rfl (Sx.y_loadS hT rfl Try.underlying35 Try.ti35 rfl ((H.blk 8 rfl).seg (k := 9) rfl) (by rfl)) ?_
                        clear hT; intro a hT
                        refine Sx.st_run hT rfl rfl rfl rfl (Sx.y_loadS hT rfl Try.underlying35 Try.ti35 rfl ((H.blk 7 rfl).seg (k := 9) rfl) (by rfl)) ?_
                        clear hT; intro a hT
                        refine Sx.st_call hT rfl rfl rfl rfl rfl Try.can21 rfl (Fragment_calls (⟨o.f.rg, o.f.at_, o.f.t, o.f.s, ad7, c7, o.f.ws⟩ : Fr) o.f ((H.row 6 rfl).ssn rfl) (RMx.at H.ext) (by show o.f.ws.length ≤ _; omega)) ?_
                        rintro _ w45 ⟨rfl, E⟩
                        refine ⟨_, rfl, ?_⟩
                        clear hT; intro a hT
                        replace H := H.pure E; clear E
                        rw [decide_eq_true (show Fr.p (⟨o.f.rg, o.f.at_, o.f.t, o.f.s, ad7, c7, o.f.ws⟩ : Fr) = Fr.p o.f from rfl)] at hT
                        refine Sx.st_take hT rfl rfl rfl rfl (Sx.x_pick_t hT rfl rfl rfl) ?_
                        clear hT; intro a hT
                        refine Sx.st_take hT rfl rfl rfl rfl (Sx.x_assign hT rfl rfl) ?_
                        clear hT; intro a hT
                        replace hT := hT.keep [7, 8, 33, 32, 6, 24, 5, 4, 18, 3, 14, 11, 0] rfl
                        refine Sx.ser_calm ?_
                        exact Sx.then_normal (hJK28 (L1, ad9, c9, M1, ad0b, adb, cb) _ _ ⟨hp1, hLM1⟩ (hT.keep [7, 8, 33, 32, 6, 24, 5, 4, 18, 3, 14, 11, 0] rfl) (H.keep [3, 4, 5, 0, 1, 2, 6, 7, 8] rfl rfl))
                    · exfalso
                      try simp only [decide_eq_true_eq, decide_eq_false_iff_not, Bool.not_eq_true', Bool.not_eq_false', Bool.not_eq_true, Bool.not_eq_false, Bool.and_eq_true, Bool.or_eq_false_iff, beq_iff_eq, bne_iff_ne, Int.not_lt, Int.not_le, ne_eq] at hc41
                      first | exact hc41 rfl | simp at hc41
                · exfalso
                  try simp only [decide_eq_true_eq, decide_eq_false_iff_not, Bool.not_eq_true', Bool.not_eq_false', Bool.not_eq_true, Bool.not_eq_false, Bool.and_eq_true, Bool.or_eq_false_iff, beq_iff_eq, bne_iff_ne, Int.not_lt, Int.not_le, ne_eq] at hc38
                  rw [beq_eq_false_iff_ne] at hc38; exact hc38 (congrArg mayF (show Fr.p (⟨o.f.rg, o.f.at_, o.f.t, o.f.s, ad7, c7, o.f.ws⟩ : Fr) = Fr.p o.f from rfl))
            · skip
              refine Sx.tser_node ?_
              refine Sx.st_run hT rfl rfl rfl rfl (Sx.y_loadS hT rfl Try.underlying35 Try.ti35 rfl ((H.blk 2 rfl).seg (k := 9) rfl) (by rfl)) ?_
              clear hT; intro a hT
              refine Sx.st_run hT rfl rfl rfl rfl (Sx.y_loadS hT rfl Try.underlying35 Try.ti35 rfl ((H.blk 1 rfl).seg (k := 9) rfl) (by rfl)) ?_
              clear hT; intro a hT
              refine Sx.st_call hT rfl rfl rfl rfl rfl Try.can18 rfl (SMay_calls (⟨o.f.rg, o.f.at_, o.f.t, o.f.s, ad7, c7, o.f.ws⟩ : Fr) ((H.row 0 rfl).ssn rfl) (by show o.f.ws.length ≤ _; omega)) ?_
              rintro _ w46 ⟨rfl, E⟩
              refine ⟨_, rfl, ?_⟩
              clear hT; intro a hT
              replace H := H.pure E; clear E
              refine Sx.st_call hT rfl rfl rfl rfl rfl Try.can19 rfl (xSMay_calls o.f (RMx.at H.ext) (by omega)) ?_
              rintro _ w47 ⟨rfl, E⟩
              refine ⟨_, rfl, ?_⟩
              clear hT; intro a hT
              replace H := H.pure E; clear E
              refine Sx.st_take hT rfl rfl rfl rfl (Sx.x_eqb hT rfl Try.underlying4 rfl rfl) ?_
              clear hT; intro a hT
              refine Sx.st_take hT rfl rfl rfl rfl (Sx.x_move hT rfl rfl) ?_
              clear hT; intro a hT
              -- guard (18, 6)
              refine Sx.Sl.two hT 48 rfl (fun hc42 hT => ?_) (fun hc42 hT => ?_)
              · try simp only [decide_eq_true_eq, decide_eq_false_iff_not, Bool.not_eq_true', Bool.not_eq_false', Bool.not_eq_true, Bool.not_eq_false, Bool.and_eq_true, Bool.or_eq_false_iff, beq_iff_eq, bne_iff_ne, Int.not_lt, Int.not_le, ne_eq] at hc42
                refine Sx.st_take hT rfl rfl rfl rfl (Sx.x_move hT rfl rfl) ?_
                clear hT; intro a hT
                refine Sx.st_take hT rfl rfl rfl rfl (Sx.x_move hT rfl rfl) ?_
                clear hT; intro a hT
                refine Sx.st_take hT rfl rfl rfl rfl (Sx.x_fieldAddr hT rfl Try.fa37_2 rfl) ?_
                clear hT; intro a hT
                refine Sx.ser_forkT ?_ ?_
                · skip
                  refine Sx.tser_node ?_
                  refine Sx.st_run hT rfl rfl rfl rfl (Sx.y_loadS hT rfl Try.underlying35 Try.ti35 rfl ((H.blk 1 rfl).seg (k := 9) rfl) (by rfl)) ?_
                  clear hT; intro a hT
                  refine Sx.ser_forkT ?_ ?_
                  · skip
                    refine Sx.tser_node ?_
                    refine Sx.st_call hT rfl rfl rfl rfl rfl Try.can11 rfl (Add_calls (⟨o.f.rg, o.f.at_, o.f.t, o.f.s, ad7, c7, o.f.ws⟩ : Fr) (H.pre [3, 4, 5] rfl rfl) ((H.lend 0 rfl [3, 4, 5] rfl rfl).mono fun u h => h.ssn rfl) (rownil (H.row 0 rfl)) (by show o.f.ws.length ≤ _; omega) hHd (by omega)) ?_
                    rintro _ w48 ⟨ad9, c9, L1, rfl, K, hp1⟩
                    refine ⟨_, rfl, ?_⟩
                    clear hT; intro a hT
                    replace H := H.back [3, 4, 5] [0, 1, 2, 6, 7, 8] rfl rfl rfl K rfl; clear K
                    have hp1 : L1.map Fr.p = addL (L.map Fr.p) o.f.p := hp1
                    refine Sx.st_run hT rfl rfl rfl rfl (Sx.y_loadS hT rfl Try.underlying35 Try.ti35 rfl ((H.blk 5 rfl).seg (k := 9) rfl) (by rfl)) ?_
                    clear hT; intro a hT
                    refine Sx.st_call hT rfl rfl rfl rfl rfl Try.can20 rfl (xAdd_calls o.f (H.pre [6, 7, 8] rfl rfl) (H.ro RMx [6, 7, 8] rfl) (by omega) (by rw [← hLM]; exact hHd) (by omega)) ?_
                    rintro _ w49 ⟨ad0b, adb, cb, M1, rfl, K, hp2⟩
                    refine ⟨_, rfl, ?_⟩
                    clear hT; intro a hT
                    replace H := H.back [6, 7, 8] [0, 1, 2, 3, 4, 5] rfl rfl rfl K rfl; clear K
                    rw [← hLM] at hT hp2
                    have hLM1 : L1.map Fr.p = M1.map Fr.p := hp1.trans hp2.symm
                    refine Sx.st_take hT rfl rfl rfl rfl ((fun w => Sx.x_eq w hT rfl rfl rfl)) ?_
                    clear hT; intro a hT
                    refine Sx.st_take hT rfl rfl rfl rfl (Sx.x_pick_t hT rfl rfl rfl) ?_
                    clear hT; intro a hT
                    refine Sx.st_take hT rfl rfl rfl rfl (Sx.x_move hT rfl rfl) ?_
                    clear hT; intro a hT
                    -- guard (18, 16)
                    refine Sx.Sl.two hT 58 rfl (fun hc43 hT => ?_) (fun hc43 hT => ?_)
                    · try simp only [decide_eq_true_eq, decide_eq_false_iff_not, Bool.not_eq_true', Bool.not_eq_false', Bool.not_eq_true, Bool.not_eq_false, Bool.and_eq_true, Bool.or_eq_false_iff, beq_iff_eq, bne_iff_ne, Int.not_lt, Int.not_le, ne_eq] at hc43
                      refine Sx.st_take hT rfl rfl rfl rfl (Sx.x_fieldAddr hT rfl Try.fa37_2 rfl) ?_
                      clear hT; intro a hT
                      refine Sx.ser_forkT ?_ ?_
                      · skip
                        refine Sx.tser_leaf ?_
                        refine Sx.st_run hT rfl rfl rfl rfl (Sx.y_loadS hT rfl Try.underlying35 Try.ti35 rfl ((H.blk 7 rfl).seg (k := 9) rfl) (by rfl)) ?_
                        clear hT; intro a hT
                        refine Sx.st_run hT rfl rfl rfl rfl (Sx.y_loadS hT rfl Try.underlying35 Try.ti35 rfl ((H.blk 8 rfl).seg (k := 9) rfl) (by rfl)) ?_
                        clear hT; intro a hT
                        refine Sx.st_call hT rfl rfl rfl rfl rfl Try.can21 rfl (Fragment_calls (⟨o.f.rg, o.f.at_, o.f.t, o.f.s, ad7, c7, o.f.ws⟩ : Fr) o.f ((H.row 6 rfl).ssn rfl) (RMx.at H.ext) (by show o.f.ws.length ≤ _; omega)) ?_
                        rintro _ w50 ⟨rfl, E⟩
                        refine ⟨_, rfl, ?_⟩
                        clear hT; intro a hT
                        replace H := H.pure E; clear E
                        rw [decide_eq_true (show Fr.p (⟨o.f.rg, o.f.at_, o.f.t, o.f.s, ad7, c7, o.f.ws⟩ : Fr) = Fr.p o.f from rfl)] at hT
                        refine Sx.st_take hT rfl rfl rfl rfl (Sx.x_pick_t hT rfl rfl rfl) ?_
                        clear hT; intro a hT
                        refine Sx.st_take hT rfl rfl rfl rfl (Sx.x_assign hT rfl rfl) ?_
                        clear hT; intro a hT
                        replace hT := hT.keep [7, 8, 33, 32, 6, 24, 5, 4, 18, 3, 14, 11, 0] rfl
                        refine Sx.ser_calm ?_
                        exact Sx.then_normal (hJK28 (L1, ad9, c9, M1, ad0b, adb, cb) _ _ ⟨hp1, hLM1⟩ (hT.keep [7, 8, 33, 32, 6, 24, 5, 4, 18, 3, 14, 11, 0] rfl) (H.keep [3, 4, 5, 0, 1, 2, 6, 7, 8] rfl rfl))
                      · skip
                        refine Sx.tser_leaf ?_
                        refine Sx.st_run hT rfl rfl rfl rfl (Sx.y_loadS hT rfl Try.underlying35 Try.ti35 rfl ((H.blk 8 rfl).seg (k := 9) rfl) (by rfl)) ?_
                        clear hT; intro a hT
                        refine Sx.st_run hT rfl rfl rfl rfl (Sx.y_loadS hT rfl Try.underlying35 Try.ti35 rfl ((H.blk 7 rfl).seg (k := 9) rfl) (by rfl)) ?_
                        clear hT; intro a hT
                        refine Sx.st_call hT rfl rfl rfl rfl rfl Try.can21 rfl (Fragment_calls (⟨o.f.rg, o.f.at_, o.f.t, o.f.s, ad7, c7, o.f.ws⟩ : Fr) o.f ((H.row 6 rfl).ssn rfl) (RMx.at H.ext) (by show o.f.ws.length ≤ _; omega)) ?_
                        rintro _ w51 ⟨rfl, E⟩
                        refine ⟨_, rfl, ?_⟩
                        clear hT; intro a hT
                        replace H := H.pure E; clear E
                        rw [decide_eq_true (show Fr.p (⟨o.f.rg, o.f.at_, o.f.t, o.f.s, ad7, c7, o.f.ws⟩ : Fr) = Fr.p o.f from rfl)] at hT
                        refine Sx.st_take hT rfl rfl rfl rfl (Sx.x_pick_t hT rfl rfl rfl) ?_
                        clear hT; intro a hT
                        refine Sx.st_take hT rfl rfl rfl rfl (Sx.x_assign hT rfl rfl) ?_
                        clear hT; intro a hT
                        replace hT := hT.keep [7, 8, 33, 32, 6, 24, 5, 4, 18, 3, 14, 11, 0] rfl
                        refine Sx.ser_calm ?_
                        exact Sx.then_normal (hJK28 (L1, ad9, c9, M1, ad0b, adb, cb) _ _ ⟨hp1, hLM1⟩ (hT.keep [7, 8, 33, 32, 6, 24, 5, 4, 18, 3, 14, 11, 0] rfl) (H.keep [3, 4, 5, 0, 1, 2, 6, 7, 8] rfl rfl))
                    · exfalso
                      try simp only [decide_eq_true_eq, decide_eq_false_iff_not, Bool.not_eq_true', Bool.not_eq_false', Bool.not_eq_true, Bool.not_eq_false, Bool.and_eq_true, Bool.or_eq_false_iff, beq_iff_eq, bne_iff_ne, Int.not_lt, Int.not_le, ne_eq] at hc43
                      first | exact hc43 rfl | simp at hc43
                  · skip
                    refine Sx.tser_node ?_
                    refine Sx.st_run hT rfl rfl rfl rfl (Sx.y_loadS hT rfl Try.underlying35 Try.ti35 rfl ((H.blk 2 rfl).seg (k := 9) rfl) (by rfl)) ?_
                    clear hT; intro a hT
                    refine Sx.st_call hT rfl rfl rfl rfl rfl Try.can11 rfl (Add_calls (⟨o.f.rg, o.f.at_, o.f.t, o.f.s, ad7, c7, o.f.ws⟩ : Fr) (H.pre [3, 4, 5] rfl rfl) ((H.lend 0 rfl [3, 4, 5] rfl rfl).mono fun u h => h.ssn rfl) (rownil (H.row 0 rfl)) (by show o.f.ws.length ≤ _; omega) hHd (by omega)) ?_
                    rintro _ w52 ⟨ad9, c9, L1, rfl, K, hp1⟩
                    refine ⟨_, rfl, ?_⟩
                    clear hT; intro a hT
                    replace H := H.back [3, 4, 5] [0, 1, 2, 6, 7, 8] rfl rfl rfl K rfl; clear K
                    have hp1 : L1.map Fr.p = addL (L.map Fr.p) o.f.p := hp1
                    refine Sx.st_call hT rfl rfl rfl rfl rfl Try.can20 rfl (xAdd_calls o.f (H.pre [6, 7, 8] rfl rfl) (H.ro RMx [6, 7, 8] rfl) (by omega) (by rw [← hLM]; exact hHd) (by omega)) ?_
                    rintro _ w53 ⟨ad0b, adb, cb, M1, rfl, K, hp2⟩
                    refine ⟨_, rfl, ?_⟩
                    clear hT; intro a hT
                    replace H := H.back [6, 7, 8] [0, 1, 2, 3, 4, 5] rfl rfl rfl K rfl; clear K
                    rw [← hLM] at hT hp2
                    have hLM1 : L1.map Fr.p = M1.map Fr.p := hp1.trans hp2.symm
                    refine Sx.st_take hT rfl rfl rfl rfl ((fun w => Sx.x_eq w hT rfl rfl rfl)) ?_
                    clear hT; intro a hT
                    refine Sx.st_take hT rfl rfl rfl rfl (Sx.x_pick_t hT rfl rfl rfl) ?_
                    clear hT; intro a hT
                    refine Sx.st_take hT rfl rfl rfl rfl (Sx.x_move hT rfl rfl) ?_
                    clear hT; intro a hT
                    -- guard (18, 16)
                    refine Sx.Sl.two hT 58 rfl (fun hc44 hT => ?_) (fun hc44 hT => ?_)
                    · try simp only [decide_eq_true_eq, decide_eq_false_iff_not, Bool.not_eq_true', Bool.not_eq_false', Bool.not_eq_true, Bool.not_eq_false, Bool.and_eq_true, Bool.or_eq_false_iff, beq_iff_eq, bne_iff_ne, Int.not_lt, Int.not_le, ne_eq] at hc44
                      refine Sx.st_take hT rfl rfl rfl rfl (Sx.x_fieldAddr hT rfl Try.fa37_2 rfl) ?_
                      clear hT; intro a hT
                      refine Sx.ser_forkT ?_ ?_
                      · skip
                        refine Sx.tser_leaf ?_
                        refine Sx.st_run hT rfl rfl rfl rfl (Sx.y_loadS hT rfl Try.underlying35 Try.ti35 rfl ((H.blk 7 rfl).seg (k := 9) rfl) (by rfl)) ?_
                        clear hT; intro a hT
                        refine Sx.st_run hT rfl rfl rfl rfl (Sx.y_loadS hT rfl Try.underlying35 Try.ti35 rfl ((H.blk 8 rfl).seg (k := 9) rfl) (by rfl)) ?_
                        clear hT; intro a hT
                        refine Sx.st_call hT rfl rfl rfl rfl rfl Try.can21 rfl (Fragment_calls (⟨o.f.rg, o.f.at_, o.f.t, o.f.s, ad7, c7, o.f.ws⟩ : Fr) o.f ((H.row 6 rfl).ssn rfl) (RMx.at H.ext) (by show o.f.ws.length ≤ _; omega)) ?_
                        rintro _ w54 ⟨rfl, E⟩
                        refine ⟨_, rfl, ?_⟩
                        clear hT; intro a hT
                        replace H := H.pure E; clear E
                        rw [decide_eq_true (show Fr.p (⟨o.f.rg, o.f.at_, o.f.t, o.f.s, ad7, c7, o.f.ws⟩ : Fr) = Fr.p o.f from rfl)] at hT
                        refine Sx.st_take hT rfl rfl rfl rfl (Sx.x_pick_t hT rfl rfl rfl) ?_
                        clear hT; intro a hT
                        refine Sx.st_take hT rfl rfl rfl rfl (Sx.x_assign hT rfl rfl) ?_
                        clear hT; intro a hT
                        replace hT := hT.keep [7, 8, 33, 32, 6, 24, 5, 4, 18, 3, 14, 11, 0] rfl
                        refine Sx.ser_calm ?_
                        exact Sx.then_normal (hJK28 (L1, ad9, c9, M1, ad0b, adb, cb) _ _ ⟨hp1, hLM1⟩ (hT.keep [7, 8, 33, 32, 6, 24, 5, 4, 18, 3, 14, 11, 0] rfl) (H.keep [3, 4, 5, 0, 1, 2, 6, 7, 8] rfl rfl))
                      · skip
                        refine Sx.tser_leaf ?_
                        refine Sx.st_run hT rfl rfl rfl rfl (Sx.y_loadS hT rfl Try.underlying35 Try.ti35 rfl ((H.blk 8 rfl).seg (k := 9) rfl) (by rfl)) ?_
                        clear hT; intro a hT
                        refine Sx.st_run hT rfl rfl rfl rfl (Sx.y_loadS hT rfl Try.underlying35 Try.ti35 rfl ((H.blk 7 rfl).seg (k := 9) rfl) (by rfl)) ?_
                        clear hT; intro a hT
                        refine Sx.st_call hT rfl rfl rfl rfl rfl Try.can21 rfl (Fragment_calls (⟨o.f.rg, o.f.at_, o.f.t, o.f.s, ad7, c7, o.f.ws⟩ : Fr) o.f ((H.row 6 rfl).ssn rfl) (RMx.at H.ext) (by show o.f.ws.length ≤ _; omega)) ?_
                        rintro _ w55 ⟨rfl, E⟩
                        refine ⟨_, rfl, ?_⟩
                        clear hT; intro a hT
                        replace H := H.pure E; clear E
                        rw [decide_eq_true (show Fr.p (⟨o.f.rg, o.f.at_, o.f.t, o.f.s, ad7, c7, o.f.ws⟩ : Fr) = Fr.p o.f from rfl)] at hT
                        refine Sx.st_take hT rfl rfl rfl rfl (Sx.x_pick_t hT rfl rfl rfl) ?_
                        clear hT; intro a hT
                        refine Sx.st_take hT rfl rfl rfl rfl (Sx.x_assign hT rfl rfl) ?_
                        clear hT; intro a hT
                        replace hT := hT.keep [7, 8, 33, 32, 6, 24, 5, 4, 18, 3, 14, 11, 0] rfl
                        refine Sx.ser_calm ?_
                        exact Sx.then_normal (hJK28 (L1, ad9, c9, M1, ad0b, adb, cb) _ _ ⟨hp1, hLM1⟩ (hT.keep [7, 8, 33, 32, 6, 24, 5, 4, 18, 3, 14, 11, 0] rfl) (H.keep [3, 4, 5, 0, 1, 2, 6, 7, 8] rfl rfl))
                    · exfalso
                      try simp only [decide_eq_true_eq, decide_eq_false_iff_not, Bool.not_eq_true', Bool.not_eq_false', Bool.not_eq_true, Bool.not_eq_false, Bool.and_eq_true, Bool.or_eq_false_iff, beq_iff_eq, bne_iff_ne, Int.not_lt, Int.not_le, ne_eq] at hc44
                      first | exact hc44 rfl | simp at hc44
                · skip
                  refine Sx.tser_node ?_
                  refine Sx.st_run hT rfl rfl rfl rfl (Sx.y_loadS hT rfl Try.underlying35 Try.ti35 rfl ((H.blk 2 rfl).seg (k := 9) rfl) (by rfl)) ?_
                  clear hT; intro a hT
                  refine Sx.st_run hT rfl rfl rfl rfl (Sx.y_loadS hT rfl Try.underlying35 Try.ti35 rfl ((H.blk 1 rfl).seg (k := 9) rfl) (by rfl)) ?_
                  clear hT; intro a hT
                  refine Sx.st_call hT rfl rfl rfl rfl rfl Try.can11 rfl (Add_calls (⟨o.f.rg, o.f.at_, o.f.t, o.f.s, ad7, c7, o.f.ws⟩ : Fr) (H.pre [3, 4, 5] rfl rfl) ((H.lend 0 rfl [3, 4, 5] rfl rfl).mono fun u h => h.ssn rfl) (rownil (H.row 0 rfl)) (by show o.f.ws.length ≤ _; omega) hHd (by omega)) ?_
                  rintro _ w56 ⟨ad9, c9, L1, rfl, K, hp1⟩
                  refine ⟨_, rfl, ?_⟩
                  clear hT; intro a hT
                  replace H := H.back [3, 4, 5] [0, 1, 2, 6, 7, 8] rfl rfl rfl K rfl; clear K
                  have hp1 : L1.map Fr.p = addL (L.map Fr.p) o.f.p := hp1
                  refine Sx.st_call hT rfl rfl rfl rfl rfl Try.can20 rfl (xAdd_calls o.f (H.pre [6, 7, 8] rfl rfl) (H.ro RMx [6, 7, 8] rfl) (by omega) (by rw [← hLM]; exact hHd) (by omega)) ?_
                  rintro _ w57 ⟨ad0b, adb, cb, M1, rfl, K, hp2⟩
                  refine ⟨_, rfl, ?_⟩
                  clear hT; intro a hT
                  replace H := H.back [6, 7, 8] [0, 1, 2, 3, 4, 5] rfl rfl rfl K rfl; clear K
                  rw [← hLM] at hT hp2
                  have hLM1 : L1.map Fr.p = M1.map Fr.p := hp1.trans hp2.symm
                  refine Sx.st_take hT rfl rfl rfl rfl ((fun w => Sx.x_eq w hT rfl rfl rfl)) ?_
                  clear hT; intro a hT
                  refine Sx.st_take hT rfl rfl rfl rfl (Sx.x_pick_t hT rfl rfl rfl) ?_
                  clear hT; intro a hT
                  refine Sx.st_take hT rfl rfl rfl rfl (Sx.x_move hT rfl rfl) ?_
                  clear hT; intro a hT
                  -- guard (18, 16)
                  refine Sx.Sl.two hT 58 rfl (fun hc45 hT => ?_) (fun hc45 hT => ?_)
                  · try simp only [decide_eq_true_eq, decide_eq_false_iff_not, Bool.not_eq_true', Bool.not_eq_false', Bool.not_eq_true, Bool.not_eq_false, Bool.and_eq_true, Bool.or_eq_false_iff, beq_iff_eq, bne_iff_ne, Int.not_lt, Int.not_le, ne_eq] at hc45
                    refine Sx.st_take hT rfl rfl rfl rfl (Sx.x_fieldAddr hT rfl Try.fa37_2 rfl) ?_
                    clear hT; intro a hT
                    refine Sx.ser_forkT ?_ ?_
                    · skip
                      refine Sx.tser_leaf ?_
                      refine Sx.st_run hT rfl rfl rfl rfl (Sx.y_loadS hT rfl Try.underlying35 Try.ti35 rfl ((H.blk 7 rfl).seg (k := 9) rfl) (by rfl)) ?_
                      clear hT; intro a hT
                      refine Sx.st_run hT rfl rfl rfl rfl (Sx.y_loadS hT rfl Try.underlying35 Try.ti35 rfl ((H.blk 8 rfl).seg (k := 9) rfl) (by rfl)) ?_
                      clear hT; intro a hT
                      refine Sx.st_call hT rfl rfl rfl rfl rfl Try.can21 rfl (Fragment_calls (⟨o.f.rg, o.f.at_, o.f.t, o.f.s, ad7, c7, o.f.ws⟩ : Fr) o.f ((H.row 6 rfl).ssn rfl) (RMx.at H.ext) (by show o.f.ws.length ≤ _; omega)) ?_
                      rintro _ w58 ⟨rfl, E⟩
                      refine ⟨_, rfl, ?_⟩
                      clear hT; intro a hT
                      replace H := H.pure E; clear E
                      rw [decide_eq_true (show Fr.p (⟨o.f.rg, o.f.at_, o.f.t, o.f.s, ad7, c7, o.f.ws⟩ : Fr) = Fr.p o.f from rfl)] at hT
                      refine Sx.st_take hT rfl rfl rfl rfl (Sx.x_pick_t hT rfl rfl rfl) ?_
                      clear hT; intro a hT
                      refine Sx.st_take hT rfl rfl rfl rfl (Sx.x_assign hT rfl rfl) ?_
                      clear hT; intro a hT
                      replace hT := hT.keep [7, 8, 33, 32, 6, 24, 5, 4, 18, 3, 14, 11, 0] rfl
                      refine Sx.ser_calm ?_
                      exact Sx.then_normal (hJK28 (L1, ad9, c9, M1, ad0b, adb, cb) _ _ ⟨hp1, hLM1⟩ (hT.keep [7, 8, 33, 32, 6, 24, 5, 4, 18, 3, 14, 11, 0] rfl) (H.keep [3, 4, 5, 0, 1, 2, 6, 7, 8] rfl rfl))
                    · skip
                      refine Sx.tser_leaf ?_
                      refine Sx.st_run hT rfl rfl rfl rfl (Sx.y_loadS hT rfl Try.underlying35 Try.ti35 rfl ((H.blk 8 rfl).seg (k := 9) rfl) (by rfl)) ?_
                      clear hT; intro a hT
                      refine Sx.st_run hT rfl rfl rfl rfl (Sx.y_loadS hT rfl Try.underlying35 Try.ti35 rfl ((H.blk 7 rfl).seg (k := 9) rfl) (by rfl)) ?_
                      clear hT; intro a hT
                      refine Sx.st_call hT rfl rfl rfl rfl rfl Try.can21 rfl (Fragment_calls (⟨o.f.rg, o.f.at_, o.f.t, o.f.s, ad7, c7, o.f.ws⟩ : Fr) o.f ((H.row 6 rfl).ssn rfl) (RMx.at H.ext) (by show o.f.ws.length ≤ _; omega)) ?_
                      rintro _ w59 ⟨rfl, E⟩
                      refine ⟨_, rfl, ?_⟩
                      clear hT; intro a hT
                      replace H := H.pure E; clear E
                      rw [decide_eq_true (show Fr.p (⟨o.f.rg, o.f.at_, o.f.t, o.f.s, ad7, c7, o.f.ws⟩ : Fr) = Fr.p o.f from rfl)] at hT
                      refine Sx.st_take hT rfl rfl rfl rfl (Sx.x_pick_t hT rfl rfl rfl) ?_
                      clear hT; intro a hT
                      refine Sx.st_take hT rfl rfl rfl rfl (Sx.x_assign hT rfl rfl) ?_
                      clear hT; intro a hT
                      replace hT := hT.keep [7, 8, 33, 32, 6, 24, 5, 4, 18, 3, 14, 11, 0] rfl
                      refine Sx.ser_calm ?_
                      exact Sx.then_normal (hJK28 (L1, ad9, c9, M1, ad0b, adb, cb) _ _ ⟨hp1, hLM1⟩ (hT.keep [7, 8, 33, 32, 6, 24, 5, 4, 18, 3, 14, 11, 0] rfl) (H.keep [3, 4, 5, 0, 1, 2, 6, 7, 8] rfl rfl))
                  · exfalso
                    try simp only [decide_eq_true_eq, decide_eq_false_iff_not, Bool.not_eq_true', Bool.not_eq_false', Bool.not_eq_true, Bool.not_eq_false, Bool.and_eq_true, Bool.or_eq_false_iff, beq_iff_eq, bne_iff_ne, Int.not_lt, Int.not_le, ne_eq] at hc45
                    first | exact hc45 rfl | simp at hc45
              · exfalso
                try simp only [decide_eq_true_eq, decide_eq_false_iff_not, Bool.not_eq_true', Bool.not_eq_false', Bool.not_eq_true, Bool.not_eq_false, Bool.and_eq_true, Bool.or_eq_false_iff, beq_iff_eq, bne_iff_ne, Int.not_lt, Int.not_le, ne_eq] at hc42
                rw [beq_eq_false_iff_ne] at hc42; exact hc42 (congrArg mayF (show Fr.p (⟨o.f.rg, o.f.at_, o.f.t, o.f.s, ad7, c7, o.f.ws⟩ : Fr) = Fr.p o.f from rfl))
        · try simp only [decide_eq_true_eq, decide_eq_false_iff_not, Bool.not_eq_true', Bool.not_eq_false', Bool.not_eq_true, Bool.not_eq_false, Bool.and_eq_true, Bool.or_eq_false_iff, beq_iff_eq, bne_iff_ne, Int.not_lt, Int.not_le, ne_eq] at hc25
          refine wp_seq_k fun K46 hK46 => ?_
          -- region 23 (law.go:85)
          refine Sx.wp_text [(0, .take), (1, .take)] rfl ?_
          refine Sx.st_take hT rfl rfl rfl rfl ((fun w => Sx.x_eq w hT rfl rfl rfl)) ?_
          clear hT; intro a hT
          refine Sx.st_take hT rfl rfl rfl rfl (Sx.x_assign hT rfl rfl) ?_
          clear hT; intro a hT
          replace hT := hT.keep [76, 33, 32, 7, 6, 24, 5, 4, 18, 3, 14, 11, 0] rfl
          refine Sx.ser_nil ?_
          refine Sx.then_normal (hK46 _ _ ?_)
          clear hK46
          -- cond 6
          refine Sx.wp_if hT rfl (fun hc47 => ?_) (fun hc47 => ?_)
          · try simp only [decide_eq_true_eq, decide_eq_false_iff_not, Bool.not_eq_true', Bool.not_eq_false', Bool.not_eq_true, Bool.not_eq_false, Bool.and_eq_true, Bool.or_eq_false_iff, beq_iff_eq, bne_iff_ne, Int.not_lt, Int.not_le, ne_eq] at hc47
            -- region 24 (law.go:86)
            refine Sx.wp_drawsT (fun u => Sx.Ext (Sx.No) u) (.node [(0, .take), (1, .take), (4, .take), (5, .take)] (.node [(2, .run)] (.leaf [(3, .run), (6, .run), (7, .run), (8, .run), (9, .take)]) (.leaf [(6, .run), (3, .run), (7, .run), (8, .run), (9, .take)])) (.leaf [(6, .run), (2, .run), (3, .run), (7, .run), (8, .run), (9, .take)])) (by kernel_rfl) (by kernel_rfl) (fun u E _ => ?_)
            refine Sx.tser_node ?_
            replace H := H.pure E; clear E
            refine Sx.st_take hT rfl rfl rfl rfl (Sx.x_move hT rfl rfl) ?_
            clear hT; intro a hT
            refine Sx.st_take hT rfl rfl rfl rfl (Sx.x_fieldAddr hT rfl Try.fa37_3 rfl) ?_
            clear hT; intro a hT
            refine Sx.st_take hT rfl rfl rfl rfl (Sx.x_move hT rfl rfl) ?_
            clear hT; intro a hT
            refine Sx.st_take hT rfl rfl rfl rfl (Sx.x_fieldAddr hT rfl Try.fa37_3 rfl) ?_
            clear hT; intro a hT
            refine Sx.ser_forkT ?_ ?_
            · skip
              refine Sx.tser_node ?_
              refine Sx.st_run hT rfl rfl rfl rfl (Sx.y_loadS hT rfl Try.underlying28 Try.ti28 rfl ((H.blk 0 rfl).seg (k := 3) rfl) (by rfl)) ?_
              clear hT; intro a hT
              refine Sx.ser_forkT ?_ ?_
              · skip
                refine Sx.tser_leaf ?_
                refine Sx.st_call hT rfl rfl rfl rfl rfl Try.can13 rfl (Upto_calls o.s (H.pre [1, 2, 3] rfl rfl) hHd (by omega)) ?_
                rintro _ w60 ⟨ad9, c9, E1, ade1, ce1, L1, rfl, K, hE1, hp1⟩
                refine ⟨_, rfl, ?_⟩
                clear hT; intro a hT
                replace H := H.back [1, 2, 3] [0, 4, 5, 6] rfl rfl rfl K rfl; clear K
                refine Sx.st_run hT rfl rfl rfl rfl (Sx.y_loadS hT rfl Try.underlying28 Try.ti28 rfl ((H.blk 5 rfl).seg (k := 3) rfl) (by rfl)) ?_
                clear hT; intro a hT
                refine Sx.st_call hT rfl rfl rfl rfl rfl Try.can23 rfl (xUpto_calls o.s (H.pre [6, 7, 8] rfl rfl) (by rw [← hLM]; exact hHd) (by omega)) ?_
                rintro _ w61 ⟨ad0b, adb, cb, E2, ade2, ce2, M1, rfl, K, hE2, hp2⟩
                refine ⟨_, rfl, ?_⟩
                clear hT; intro a hT
                replace H := H.back [6, 7, 8] [0, 1, 2, 3, 4, 5] rfl rfl rfl K rfl; clear K
                rw [← hLM] at hE2 hp2
                have hLM1 : L1.map Fr.p = M1.map Fr.p := hp1.trans hp2.symm
                refine Sx.st_call hT rfl rfl rfl rfl rfl Try.can22 rfl (Entries_calls E1 E2 ((H.row 8 rfl).ssn rfl) ((H.row 3 rfl).ssn rfl) (fun x hx => ⟨fam_en (H.fam 9 rfl) x hx, by have h9 := upto_wl hHd (by rw [List.length_map]; omega) o.s x.p (by rw [← hE1]; exact List.mem_map_of_mem hx); have h8 : x.ws.length ≤ 160000 := h9; omega⟩) (fam_en (H.fam 4 rfl)) (by have h9 := congrArg List.length hE1; have h8 := (grp_all hHd (cntS o.s (L.map Fr.p)) (cntS_le _ _)).len; have h7 := cntS_le o.s (L.map Fr.p); unfold uptoE at h9; rw [List.length_map, List.length_map] at h9; rw [List.length_map] at h7; omega)) ?_
                rintro _ w62 ⟨rfl, E⟩
                refine ⟨_, rfl, ?_⟩
                clear hT; intro a hT
                replace H := H.pure E; clear E
                rw [decide_eq_true (show List.map En.p E1 = List.map En.p E2 from hE1.trans hE2.symm)] at hT
                refine Sx.st_take hT rfl rfl rfl rfl (Sx.x_assign hT rfl rfl) ?_
                clear hT; intro a hT
                replace hT := hT.keep [7, 76, 33, 32, 6, 24, 5, 4, 18, 3, 14, 11, 0] rfl
                refine Sx.ser_calm ?_
                refine Sx.block_normal ?_
                skip
                exact Sx.then_normal (hJK20 (L1, ad9, c9, M1, ad0b, adb, cb) _ _ ⟨hLM1, by rw [hp1]; exact held_upto hHd _, by have h9 := (upto_len (L.map Fr.p) o.s).2; rw [← hp1, List.length_map, List.length_map] at h9; show L1.length ≤ i + 1; omega⟩ (hT.keep [7, 6, 24, 5, 4, 18, 3, 14, 11, 0] rfl) (H.keep [5, 6, 7, 0, 1, 2, 10] rfl rfl))
              · skip
                refine Sx.tser_leaf ?_
                refine Sx.st_run hT rfl rfl rfl rfl (Sx.y_loadS hT rfl Try.underlying28 Try.ti28 rfl ((H.blk 0 rfl).seg (k := 3) rfl) (by rfl)) ?_
                clear hT; intro a hT
                refine Sx.st_call hT rfl rfl rfl rfl rfl Try.can13 rfl (Upto_calls o.s (H.pre [1, 2, 3] rfl rfl) hHd (by omega)) ?_
                rintro _ w63 ⟨ad9, c9, E1, ade1, ce1, L1, rfl, K, hE1, hp1⟩
                refine ⟨_, rfl, ?_⟩
                clear hT; intro a hT
                replace H := H.back [1, 2, 3] [0, 4, 5, 6] rfl rfl rfl K rfl; clear K
                refine Sx.st_call hT rfl rfl rfl rfl rfl Try.can23 rfl (xUpto_calls o.s (H.pre [6, 7, 8] rfl rfl) (by rw [← hLM]; exact hHd) (by omega)) ?_
                rintro _ w64 ⟨ad0b, adb, cb, E2, ade2, ce2, M1, rfl, K, hE2, hp2⟩
                refine ⟨_, rfl, ?_⟩
                clear hT; intro a hT
                replace H := H.back [6, 7, 8] [0, 1, 2, 3, 4, 5] rfl rfl rfl K rfl; clear K
                rw [← hLM] at hE2 hp2
                have hLM1 : L1.map Fr.p = M1.map Fr.p := hp1.trans hp2.symm
                refine Sx.st_call hT rfl rfl rfl rfl rfl Try.can22 rfl (Entries_calls E1 E2 ((H.row 8 rfl).ssn rfl) ((H.row 3 rfl).ssn rfl) (fun x hx => ⟨fam_en (H.fam 9 rfl) x hx, by have h9 := upto_wl hHd (by rw [List.length_map]; omega) o.s x.p (by rw [← hE1]; exact List.mem_map_of_mem hx); have h8 : x.ws.length ≤ 160000 := h9; omega⟩) (fam_en (H.fam 4 rfl)) (by have h9 := congrArg List.length hE1; have h8 := (grp_all hHd (cntS o.s (L.map Fr.p)) (cntS_le _ _)).len; have h7 := cntS_le o.s (L.map Fr.p); unfold uptoE at h9; rw [List.length_map, List.length_map] at h9; rw [List.length_map] at h7; omega)) ?_
                rintro _ w65 ⟨rfl, E⟩
                refine ⟨_, rfl, ?_⟩
                clear hT; intro a hT
                replace H := H.pure E; clear E
                rw [decide_eq_true (show List.map En.p E1 = List.map En.p E2 from hE1.trans hE2.symm)] at hT
                refine Sx.st_take hT rfl rfl rfl rfl (Sx.x_assign hT rfl rfl) ?_
                clear hT; intro a hT
                replace hT := hT.keep [7, 76, 33, 32, 6, 24, 5, 4, 18, 3, 14, 11, 0] rfl
                refine Sx.ser_calm ?_
                refine Sx.block_normal ?_
                skip
                exact Sx.then_normal (hJK20 (L1, ad9, c9, M1, ad0b, adb, cb) _ _ ⟨hLM1, by rw [hp1]; exact held_upto hHd _, by have h9 := (upto_len (L.map Fr.p) o.s).2; rw [← hp1, List.length_map, List.length_map] at h9; show L1.length ≤ i + 1; omega⟩ (hT.keep [7, 6, 24, 5, 4, 18, 3, 14, 11, 0] rfl) (H.keep [5, 6, 7, 0, 1, 2, 10] rfl rfl))
            · skip
              refine Sx.tser_leaf ?_
              refine Sx.st_run hT rfl rfl rfl rfl (Sx.y_loadS hT rfl Try.underlying28 Try.ti28 rfl ((H.blk 0 rfl).seg (k := 3) rfl) (by rfl)) ?_
              clear hT; intro a hT
              refine Sx.st_run hT rfl rfl rfl rfl (Sx.y_loadS hT rfl Try.underlying28 Try.ti28 rfl ((H.blk 0 rfl).seg (k := 3) rfl) (by rfl)) ?_
              clear hT; intro a hT
              refine Sx.st_call hT rfl rfl rfl rfl rfl Try.can13 rfl (Upto_calls o.s (H.pre [1, 2, 3] rfl rfl) hHd (by omega)) ?_
              rintro _ w66 ⟨ad9, c9, E1, ade1, ce1, L1, rfl, K, hE1, hp1⟩
              refine ⟨_, rfl, ?_⟩
              clear hT; intro a hT
              replace H := H.back [1, 2, 3] [0, 4, 5, 6] rfl rfl rfl K rfl; clear K
              refine Sx.st_call hT rfl rfl rfl rfl rfl Try.can23 rfl (xUpto_calls o.s (H.pre [6, 7, 8] rfl rfl) (by rw [← hLM]; exact hHd) (by omega)) ?_
              rintro _ w67 ⟨ad0b, adb, cb, E2, ade2, ce2, M1, rfl, K, hE2, hp2⟩
              refine ⟨_, rfl, ?_⟩
              clear hT; intro a hT
              replace H := H.back [6, 7, 8] [0, 1, 2, 3, 4, 5] rfl rfl rfl K rfl; clear K
              rw [← hLM] at hE2 hp2
              have hLM1 : L1.map Fr.p = M1.map Fr.p := hp1.trans hp2.symm
              refine Sx.st_call hT rfl rfl rfl rfl rfl Try.can22 rfl (Entries_calls E1 E2 ((H.row 8 rfl).ssn rfl) ((H.row 3 rfl).ssn rfl) (fun x hx => ⟨fam_en (H.fam 9 rfl) x hx, by have h9 := upto_wl hHd (by rw [List.length_map]; omega) o.s x.p (by rw [← hE1]; exact List.mem_map_of_mem hx); have h8 : x.ws.length ≤ 160000 := h9; omega⟩) (fam_en (H.fam 4 rfl)) (by have h9 := congrArg List.length hE1; have h8 := (grp_all hHd (cntS o.s (L.map Fr.p)) (cntS_le _ _)).len; have h7 := cntS_le o.s (L.map Fr.p); unfold uptoE at h9; rw [List.length_map, List.length_map] at h9; rw [List.length_map] at h7; omega)) ?_
              rintro _ w68 ⟨rfl, E⟩
              refine ⟨_, rfl, ?_⟩
              clear hT; intro a hT
              replace H := H.pure E; clear E
              rw [decide_eq_true (show List.map En.p E1 = List.map En.p E2 from hE1.trans hE2.symm)] at hT
              refine Sx.st_take hT rfl rfl rfl rfl (Sx.x_assign hT rfl rfl) ?_
              clear hT; intro a hT
              replace hT := hT.keep [7, 76, 33, 32, 6, 24, 5, 4, 18, 3, 14, 11, 0] rfl
              refine Sx.ser_calm ?_
              refine Sx.block_normal ?_
              skip
              exact Sx.then_normal (hJK20 (L1, ad9, c9, M1, ad0b, adb, cb) _ _ ⟨hLM1, by rw [hp1]; exact held_upto hHd _, by have h9 := (upto_len (L.map Fr.p) o.s).2; rw [← hp1, List.length_map, List.length_map] at h9; show L1.length ≤ i + 1; omega⟩ (hT.keep [7, 6, 24, 5, 4, 18, 3, 14, 11, 0] rfl) (H.keep [5, 6, 7, 0, 1, 2, 10] rfl rfl))
          · try simp only [decide_eq_true_eq, decide_eq_false_iff_not, Bool.not_eq_true', Bool.not_eq_false', Bool.not_eq_true, Bool.not_eq_false, Bool.and_eq_true, Bool.or_eq_false_iff, beq_iff_eq, bne_iff_ne, Int.not_lt, Int.not_le, ne_eq] at hc47
            refine wp_seq_k fun K48 hK48 => ?_
            -- region 25 (law.go:87)
            refine Sx.wp_text [(0, .take), (1, .take)] rfl ?_
            refine Sx.st_take hT rfl rfl rfl rfl ((fun w => Sx.x_eq w hT rfl rfl rfl)) ?_
            clear hT; intro a hT
            refine Sx.st_take hT rfl rfl rfl rfl (Sx.x_assign hT rfl rfl) ?_
            clear hT; intro a hT
            replace hT := hT.keep [87, 76, 33, 32, 7, 6, 24, 5, 4, 18, 3, 14, 11, 0] rfl
            refine Sx.ser_nil ?_
            refine Sx.then_normal (hK48 _ _ ?_)
            clear hK48
            -- cond 7
            refine Sx.wp_if hT rfl (fun hc49 => ?_) (fun hc49 => ?_)
            · try simp only [decide_eq_true_eq, decide_eq_false_iff_not, Bool.not_eq_true', Bool.not_eq_false', Bool.not_eq_true, Bool.not_eq_false, Bool.and_eq_true, Bool.or_eq_false_iff, beq_iff_eq, bne_iff_ne, Int.not_lt, Int.not_le, ne_eq] at hc49
              -- region 26 (law.go:88)
              refine Sx.wp_draws (fun u => Sx.Ext (Sx.No) u) [(0, .take), (1, .take), (2, .held), (3, .take), (4, .take), (5, .held), (7, .take), (8, .take), (9, .held), (10, .take), (11, .take), (12, .held), (6, .keep), (13, .run), (14, .take), (15, .take)] (by kernel_rfl) (by kernel_rfl) (fun u E _ => ?_)
              replace H := H.pure E; clear E
              have hH : Sx.Ext (Sx.No) u u := Sx.Ext.refl _ _
              have Hu := H
              refine Sx.st_take hT rfl rfl rfl rfl (Sx.x_move hT rfl rfl) ?_
              clear hT; intro a hT
              refine Sx.st_take hT rfl rfl rfl rfl (Sx.x_fieldAddr hT rfl Try.fa37_1 rfl) ?_
              clear hT; intro a hT
              refine Sx.st_held hT rfl rfl rfl rfl hH (fun w' h' => Sx.x_load1 hT rfl Try.fl3 rfl ((Hu.heldB 0 rfl h' Sx.off_No).nth rfl)) ?_
              clear hT; intro a hT
              refine Sx.st_take hT rfl rfl rfl rfl (Sx.x_fieldAddr hT rfl Try.fa37_2 rfl) ?_
              clear hT; intro a hT
              refine Sx.st_take hT rfl rfl rfl rfl (Sx.x_fieldAddr hT rfl Try.fa35_2 rfl) ?_
              clear hT; intro a hT
              refine Sx.st_held hT rfl rfl rfl rfl hH (fun w' h' => Sx.y_loadS hT rfl Try.underlying32 Try.ti32 rfl ((Hu.heldB 0 rfl h' Sx.off_No).seg (k := 3) rfl) (by rfl)) ?_
              clear hT; intro a hT
              refine Sx.st_take hT rfl rfl rfl rfl (Sx.x_move hT rfl rfl) ?_
              clear hT; intro a hT
              refine Sx.st_take hT rfl rfl rfl rfl (Sx.x_fieldAddr hT rfl Try.fa37_1 rfl) ?_
              clear hT; intro a hT
              refine Sx.st_held hT rfl rfl rfl rfl hH (fun w' h' => Sx.x_load1 hT rfl Try.fl3 rfl ((Hu.heldB 0 rfl h' Sx.off_No).nth rfl)) ?_
              clear hT; intro a hT
              refine Sx.st_take hT rfl rfl rfl rfl (Sx.x_fieldAddr hT rfl Try.fa37_2 rfl) ?_
              clear hT; intro a hT
              refine Sx.st_take hT rfl rfl rfl rfl (Sx.x_fieldAddr hT rfl Try.fa35_2 rfl) ?_
              clear hT; intro a hT
              refine Sx.st_held hT rfl rfl rfl rfl hH (fun w' h' => Sx.y_loadS hT rfl Try.underlying32 Try.ti32 rfl ((Hu.heldB 0 rfl h' Sx.off_No).seg (k := 3) rfl) (by rfl)) ?_
              clear hT; intro a hT
              refine Sx.st_callkeep hT rfl rfl rfl rfl rfl Try.can16 rfl (Has_calls L o.n o.f.t (H.blk 1 rfl) ((H.row 2 rfl).ssn rfl) (by omega)) ?_
              rintro _ w69 ⟨rfl, E⟩
              refine ⟨_, rfl, hH.step E, ?_⟩
              replace hH := hH.step E
              clear hT; intro a hT
              replace H := H.pure E; clear E
              refine Sx.st_call hT rfl rfl rfl rfl rfl Try.can24 rfl (xHas_calls M o.n o.f.t (H.blk 4 rfl) ((H.at 5 rfl).1) (by omega)) ?_
              rintro _ w70 ⟨rfl, E⟩
              refine ⟨_, rfl, ?_⟩
              clear hT; intro a hT
              replace H := H.pure E; clear E
              rw [← hLM] at hT
              refine Sx.st_take hT rfl rfl rfl rfl (Sx.x_eqb hT rfl Try.underlying4 rfl rfl) ?_
              clear hT; intro a hT
              refine Sx.st_take hT rfl rfl rfl rfl (Sx.x_assign hT rfl rfl) ?_
              clear hT; intro a hT
              replace hT := hT.keep [7, 87, 76, 33, 32, 6, 24, 5, 4, 18, 3, 14, 11, 0] rfl
              clear Hu hH
              refine Sx.ser_calm ?_
              refine Sx.block_normal ?_
              simp only [decide_true, beq_self_eq_true, Bool.and_self] at hT
              exact Sx.then_normal (hJK20 (L, ad1, c1, M, ad0, ad2, c2) _ _ ⟨hLM, hHd, by show L.length ≤ i + 1; omega⟩ (hT.keep [7, 6, 24, 5, 4, 18, 3, 14, 11, 0] rfl) (H.keep [1, 2, 3, 4, 5, 6, 0] rfl rfl))
            · try simp only [decide_eq_true_eq, decide_eq_false_iff_not, Bool.not_eq_true', Bool.not_eq_false', Bool.not_eq_true, Bool.not_eq_false, Bool.and_eq_true, Bool.or_eq_false_iff, beq_iff_eq, bne_iff_ne, Int.not_lt, Int.not_le, ne_eq] at hc49
              refine wp_skip ?_
              refine Sx.block_normal ?_
              skip
              exact Sx.then_normal (hJK20 (L, ad1, c1, M, ad0, ad2, c2) _ _ ⟨hLM, hHd, by show L.length ≤ i + 1; omega⟩ (hT.keep [7, 6, 24, 5, 4, 18, 3, 14, 11, 0] rfl) (H.keep [1, 2, 3, 4, 5, 6, 0] rfl rfl))
    · try simp only [decide_eq_true_eq, decide_eq_false_iff_not, Bool.not_eq_true', Bool.not_eq_false', Bool.not_eq_true, Bool.not_eq_false, Bool.and_eq_true, Bool.or_eq_false_iff, beq_iff_eq, bne_iff_ne, Int.not_lt, Int.not_le, ne_eq] at hc16
      refine wp_exit ?_
      refine Sx.then_exit ?_
      refine Sx.then_exit ?_
      refine Sx.block_exit ?_
      refine Sx.then_normal (hK12 _ _ ?_)
      clear hK12
      refine wp_seq_k fun K50 hK50 => ?_
      -- region 29 (law.go:94)
      refine Sx.wp_text [(0, .run), (1, .take)] rfl ?_
      refine Sx.st_call hT rfl rfl rfl rfl rfl Try.can7 rfl (first_calls _) ?_
      rintro _ w71 ⟨rfl, E⟩
      refine ⟨_, rfl, ?_⟩
      clear hT; intro a hT
      replace H := H.pure E; clear E
      refine Sx.st_take hT rfl rfl rfl rfl (Sx.x_assign hT rfl rfl) ?_
      clear hT; intro a hT
      replace hT := hT.keep [2, 24, 5, 4, 18, 3, 14, 11, 0] rfl
      refine Sx.ser_nil ?_
      refine Sx.then_normal (hK50 _ _ ?_)
      clear hK50
      refine wp_ret ?_
      refine Sx.done1 (fn := Try.f5) hT rfl (.tmp (hT.get 2 _ rfl)) ?_
      exact ⟨ret_b rfl, H.ext⟩

end Go.Proofs.Ythhdoeflafakaaa
