/- Walks: DirGroups. -/
import Derived.Test.YtakohabmcgponaaW14
set_option linter.unusedSimpArgs false
set_option linter.unusedVariables false
namespace Go.Proofs.Ytakohabmcgponaa
open Sx
theorem Try.fl25 : Sx.Flat Try.prog 25 := ⟨_, Try.underlying25, trivial⟩
theorem Try.fa66_0 : Sx.FA Try.prog 66 0 0 := ⟨_, _, _, _, _, Try.underlying66, rfl, rfl, Try.ti37, by decide⟩
theorem Try.fa66_1 : Sx.FA Try.prog 66 1 4 := ⟨_, _, _, _, _, Try.underlying66, rfl, rfl, Try.ti25, by decide⟩
theorem Try.can6 : Sx.Can Try.prog 6 := ⟨_, Try.func6, by kernel_rfl, rfl⟩
set_option maxHeartbeats 4000000 in
theorem Groups_yes (m : Nat) (h1 : 1 ≤ m) (h2 : m ≤ 12) {ad : Option Addr} {c : Nat} (l : List Rg) {ad4 : Option Addr} {c4 : Nat} (ks : List (List UInt8)) {w : World} (hs : Ss w ad Rg.cells 4 l) (hs4 : Ss w ad4 kc 1 ks) (hw : ∀ r ∈ l, r.wf) (hks : ks.length ≤ 9223372036854775806) (hkb : ∀ l ∈ ks, l.length ≤ 140737488351232) : Calls Try.prog 6 #[.int .i64 (m : Int), .slice ad l.length c, .slice ad4 ks.length c4] w fun e w' => e = .returned (.bool true) ∧ Ext No w w' := by
  have R : Ro w No _ := Ro.of fun w' x => hs.ext_no x
  have R4 : Ro w No _ := Ro.of fun w' x => hs4.ext_no x
  refine Sx.calls_into Try.func6 rfl Try.ntmps6 rfl fun a hT => ?_
  replace hT := hT.keep [0, 1, 2] rfl
  have H : Sx.Hp w (Sx.No) w [] := Sx.Hp.start _ _
  refine wp_seq_k fun K1 hK1 => ?_
  -- region 0 (law.go:158)
  refine Sx.wp_text [(0, .take)] rfl ?_
  refine Sx.st_take hT rfl rfl rfl rfl (Sx.x_assign hT rfl rfl) ?_
  clear hT; intro a hT
  replace hT := hT.keep [6, 0, 1, 2] rfl
  refine Sx.ser_nil ?_
  refine Sx.then_normal (hK1 _ _ ?_)
  clear hK1
  refine wp_seq_k fun K2 hK2 => ?_
  refine wp_seq_k fun K3 hK3 => ?_
  -- region 1 (law.go:159)
  refine Sx.wp_text [(0, .run), (1, .take)] rfl ?_
  refine Sx.st_call hT rfl rfl rfl rfl rfl Try.can7 rfl (first_calls _) ?_
  rintro _ w1 ⟨rfl, E⟩
  refine ⟨_, rfl, ?_⟩
  clear hT; intro a hT
  replace H := H.pure E; clear E
  refine Sx.st_take hT rfl rfl rfl rfl (Sx.x_not hT rfl rfl) ?_
  clear hT; intro a hT
  replace hT := hT.keep [28, 6, 0, 1, 2] rfl
  refine Sx.ser_nil ?_
  refine Sx.then_normal (hK3 _ _ ?_)
  clear hK3
  refine Sx.wp_if hT rfl (fun h => by cases h) (fun _ => ?_)
  refine wp_skip ?_
  refine Sx.then_normal (hK2 _ _ ?_)
  clear hK2
  refine wp_seq_k fun K4 hK4 => ?_
  refine wp_seq_k fun K5 hK5 => ?_
  -- region 3 (law.go:162)
  refine Sx.wp_text [(0, .take), (1, .take), (2, .run), (3, .take)] rfl ?_
  refine Sx.st_take hT rfl rfl rfl rfl (Sx.x_move hT rfl rfl) ?_
  clear hT; intro a hT
  refine Sx.st_take hT rfl rfl rfl rfl (Sx.x_move hT rfl rfl) ?_
  clear hT; intro a hT
  refine Sx.st_call hT rfl rfl rfl rfl rfl Try.can8 rfl (fewX_calls ks (R4.at H.ext) hks hkb) ?_
  rintro _ w2 ⟨rfl, E⟩
  refine ⟨_, rfl, ?_⟩
  clear hT; intro a hT
  replace H := H.pure E; clear E
  refine Sx.st_take hT rfl rfl rfl rfl (Sx.x_not hT rfl rfl) ?_
  clear hT; intro a hT
  replace hT := hT.keep [32, 28, 6, 0, 1, 2] rfl
  refine Sx.ser_nil ?_
  refine Sx.then_normal (hK5 _ _ ?_)
  clear hK5
  -- cond 1
  refine Sx.wp_if hT rfl (fun hc6 => ?_) (fun hc6 => ?_)
  · try simp only [decide_eq_true_eq, decide_eq_false_iff_not, Bool.not_eq_true', Bool.not_eq_false', Bool.not_eq_true, Bool.not_eq_false, Bool.and_eq_true, Bool.or_eq_false_iff, beq_iff_eq, bne_iff_ne, Int.not_lt, Int.not_le, ne_eq] at hc6
    refine wp_seq_k fun K7 hK7 => ?_
    -- region 4 (law.go:163)
    refine Sx.wp_text [(0, .run), (1, .take)] rfl ?_
    refine Sx.st_call hT rfl rfl rfl rfl rfl Try.can7 rfl (first_calls _) ?_
    rintro _ w3 ⟨rfl, E⟩
    refine ⟨_, rfl, ?_⟩
    clear hT; intro a hT
    replace H := H.pure E; clear E
    refine Sx.st_take hT rfl rfl rfl rfl (Sx.x_assign hT rfl rfl) ?_
    clear hT; intro a hT
    replace hT := hT.keep [6, 32, 28, 0, 1, 2] rfl
    refine Sx.ser_nil ?_
    refine Sx.then_normal (hK7 _ _ ?_)
    clear hK7
    refine wp_ret ?_
    refine Sx.then_ret ?_
    refine Sx.done1 (fn := Try.f6) hT rfl (.tmp (hT.get 6 _ rfl)) ?_
    exact ⟨ret_b (by simp), H.ext⟩
  · try simp only [decide_eq_true_eq, decide_eq_false_iff_not, Bool.not_eq_true', Bool.not_eq_false', Bool.not_eq_true, Bool.not_eq_false, Bool.and_eq_true, Bool.or_eq_false_iff, beq_iff_eq, bne_iff_ne, Int.not_lt, Int.not_le, ne_eq] at hc6
    have hfew := hc6
    obtain ⟨hl9, hwt⟩ : l.length ≤ 100 ∧ wtF 2000 ks 0 ≤ 2000 := by simpa using hfew
    obtain ⟨hkl, -⟩ := wt_facts ks 0 hwt
    refine wp_skip ?_
    refine Sx.then_normal (hK4 _ _ ?_)
    clear hK4
    refine wp_seq_k fun K8 hK8 => ?_
    -- region 5 (law.go:165)
    refine Sx.wp_text [(0, .take), (1, .run), (2, .take), (3, .take), (4, .take), (5, .take), (6, .take)] rfl ?_
    refine Sx.st_take hT rfl rfl rfl rfl (Sx.x_move hT rfl rfl) ?_
    clear hT; intro a hT
    refine Sx.st_call hT rfl rfl rfl rfl rfl Try.can9 rfl (Even2_calls m h1 h2 _) ?_
    rintro _ w4 ⟨ad0, c0, rfl, K⟩
    refine ⟨_, rfl, ?_⟩
    clear hT; intro a hT
    replace H := H.more K rfl; clear K
    refine Sx.st_take hT rfl rfl rfl rfl (Sx.x_move hT rfl rfl) ?_
    clear hT; intro a hT
    refine Sx.st_take hT rfl rfl rfl rfl (Sx.x_extractL hT rfl rfl rfl) ?_
    clear hT; intro a hT
    refine Sx.st_take hT rfl rfl rfl rfl (Sx.x_extractL hT rfl rfl rfl) ?_
    clear hT; intro a hT
    refine Sx.st_take hT rfl rfl rfl rfl (Sx.x_assign hT rfl rfl) ?_
    clear hT; intro a hT
    refine Sx.st_take hT rfl rfl rfl rfl (Sx.x_assign hT rfl rfl) ?_
    clear hT; intro a hT
    replace hT := hT.keep [8, 7, 32, 28, 6, 0, 1, 2] rfl
    refine Sx.ser_nil ?_
    refine Sx.then_normal (hK8 _ _ ?_)
    clear hK8
    refine wp_seq_k fun K9 hK9 => ?_
    refine wp_seq_k fun K10 hK10 => ?_
    -- region 6 (law.go:166)
    refine Sx.wp_text [(0, .take), (1, .take)] rfl ?_
    refine Sx.st_take hT rfl rfl rfl rfl (Sx.x_move hT rfl rfl) ?_
    clear hT; intro a hT
    refine Sx.st_take hT rfl rfl rfl rfl ((fun w => Sx.x_ne w hT rfl rfl rfl)) ?_
    clear hT; intro a hT
    replace hT := hT.keep [40, 8, 7, 32, 28, 6, 0, 1, 2] rfl
    refine Sx.ser_nil ?_
    refine Sx.then_normal (hK10 _ _ ?_)
    clear hK10
    -- cond 2
    refine Sx.wp_if hT rfl (fun hc11 => ?_) (fun hc11 => ?_)
    · exfalso
      try simp only [decide_eq_true_eq, decide_eq_false_iff_not, Bool.not_eq_true', Bool.not_eq_false', Bool.not_eq_true, Bool.not_eq_false, Bool.and_eq_true, Bool.or_eq_false_iff, beq_iff_eq, bne_iff_ne, Int.not_lt, Int.not_le, ne_eq] at hc11
      first | (simp at hc11; done) | (simp at hc11; omega) | omega
    · try simp only [decide_eq_true_eq, decide_eq_false_iff_not, Bool.not_eq_true', Bool.not_eq_false', Bool.not_eq_true, Bool.not_eq_false, Bool.and_eq_true, Bool.or_eq_false_iff, beq_iff_eq, bne_iff_ne, Int.not_lt, Int.not_le, ne_eq] at hc11
      refine wp_skip ?_
      refine Sx.then_normal (hK9 _ _ ?_)
      clear hK9
      refine wp_seq_k fun K12 hK12 => ?_
      -- region 8 (law.go:169)
      refine Sx.wp_text [(0, .take), (1, .run), (2, .take), (3, .take), (4, .take), (5, .take), (6, .take)] rfl ?_
      refine Sx.st_take hT rfl rfl rfl rfl (Sx.x_move hT rfl rfl) ?_
      clear hT; intro a hT
      refine Sx.st_call hT rfl rfl rfl rfl rfl Try.can10 rfl (New_yes (evenF m m) ((H.row 0 rfl).ssn rfl) (by rw [even_len]; omega) ((H.row 0 rfl).le.1) (even_wf h1 h2) (even_ok h1 h2)) ?_
      rintro _ w5 ⟨pd, bd, rfl, K⟩
      refine ⟨_, rfl, ?_⟩
      clear hT; intro a hT
      replace H := H.more K rfl; clear K
      rw [E0_eq h1 h2] at H
      refine Sx.st_take hT rfl rfl rfl rfl (Sx.x_move hT rfl rfl) ?_
      clear hT; intro a hT
      refine Sx.st_take hT rfl rfl rfl rfl (Sx.x_extractL hT rfl rfl rfl) ?_
      clear hT; intro a hT
      refine Sx.st_take hT rfl rfl rfl rfl (Sx.x_extractL hT rfl rfl rfl) ?_
      clear hT; intro a hT
      refine Sx.st_take hT rfl rfl rfl rfl (Sx.x_assign hT rfl rfl) ?_
      clear hT; intro a hT
      refine Sx.st_take hT rfl rfl rfl rfl (Sx.x_assign hT rfl rfl) ?_
      clear hT; intro a hT
      replace hT := hT.keep [10, 9, 40, 8, 7, 32, 28, 6, 0, 1, 2] rfl
      refine Sx.ser_nil ?_
      refine Sx.then_normal (hK12 _ _ ?_)
      clear hK12
      refine wp_seq_k fun K13 hK13 => ?_
      refine wp_seq_k fun K14 hK14 => ?_
      -- region 9 (law.go:170)
      refine Sx.wp_text [(0, .take), (1, .take), (2, .take), (3, .take), (4, .take), (5, .take)] rfl ?_
      refine Sx.st_take hT rfl rfl rfl rfl (Sx.x_move hT rfl rfl) ?_
      clear hT; intro a hT
      refine Sx.st_take hT rfl rfl rfl rfl ((fun w => Sx.x_ne w hT rfl rfl rfl)) ?_
      clear hT; intro a hT
      refine Sx.st_take hT rfl rfl rfl rfl (Sx.x_move hT rfl rfl) ?_
      clear hT; intro a hT
      -- guard (9, 2)
      refine Sx.Sl.two hT 49 rfl (fun hc15 hT => ?_) (fun hc15 hT => ?_)
      · exfalso
        try simp only [decide_eq_true_eq, decide_eq_false_iff_not, Bool.not_eq_true', Bool.not_eq_false', Bool.not_eq_true, Bool.not_eq_false, Bool.and_eq_true, Bool.or_eq_false_iff, beq_iff_eq, bne_iff_ne, Int.not_lt, Int.not_le, ne_eq] at hc15
        first | (simp at hc15; done) | (simp at hc15; omega) | omega
      · try simp only [decide_eq_true_eq, decide_eq_false_iff_not, Bool.not_eq_true', Bool.not_eq_false', Bool.not_eq_true, Bool.not_eq_false, Bool.and_eq_true, Bool.or_eq_false_iff, beq_iff_eq, bne_iff_ne, Int.not_lt, Int.not_le, ne_eq] at hc15
        refine Sx.st_take hT rfl rfl rfl rfl (Sx.x_move hT rfl rfl) ?_
        clear hT; intro a hT
        refine Sx.st_take hT rfl rfl rfl rfl (Sx.x_eqnil_some hT rfl Try.underlying32 rfl rfl) ?_
        clear hT; intro a hT
        refine Sx.st_take hT rfl rfl rfl rfl (Sx.x_pick_f hT rfl rfl rfl) ?_
        clear hT; intro a hT
        replace hT := hT.keep [52, 10, 9, 40, 8, 7, 32, 28, 6, 0, 1, 2] rfl
        refine Sx.ser_nil ?_
        refine Sx.then_normal (hK14 _ _ ?_)
        clear hK14
        refine Sx.wp_if hT rfl (fun h => by cases h) (fun _ => ?_)
        refine wp_skip ?_
        refine Sx.then_normal (hK13 _ _ ?_)
        clear hK13
        refine wp_seq_k fun K16 hK16 => ?_
        -- region 11 (law.go:173)
        refine Sx.wp_text [(0, .take), (1, .take), (2, .run)] rfl ?_
        refine Sx.st_take hT rfl rfl rfl rfl (Sx.x_move hT rfl rfl) ?_
        clear hT; intro a hT
        refine Sx.st_take hT rfl rfl rfl rfl (Sx.x_move hT rfl rfl) ?_
        clear hT; intro a hT
        refine Sx.st_call hT rfl rfl rfl rfl rfl Try.can12 rfl (Learn_calls l (H.pre [0, 1] rfl rfl) (H.ro R [0, 1] rfl) (by omega) (by rw [even_len]; omega) hw) ?_
        rintro _ w6 ⟨rfl, K⟩
        refine ⟨_, rfl, ?_⟩
        clear hT; intro a hT
        replace H := H.back [0, 1] [2] rfl rfl rfl K rfl; clear K
        obtain ⟨D, hDe⟩ : ∃ D, D = (learnR (evenF m m) l).1 := ⟨_, rfl⟩
        rw [← hDe] at H
        have hDs : Srt D := by rw [hDe]; exact learn_srt l (IdL.srt (cov_even h1 h2).id)
        have hDl : D.length ≤ 1000000 := by
          have h8 := learn_len l (evenF m m, 0)
          rw [hDe]
          unfold learnR
          dsimp only at h8 ⊢
          rw [even_len] at h8
          omega
        replace hT := hT.keep [52, 10, 9, 40, 8, 7, 32, 28, 6, 0, 1, 2] rfl
        refine Sx.ser_nil ?_
        refine Sx.then_normal (hK16 _ _ ?_)
        clear hK16
        refine wp_seq_k fun K17 hK17 => ?_
        -- region 12 (law.go:174)
        refine Sx.wp_text [(0, .take), (1, .take), (2, .run), (3, .take), (4, .take), (5, .take), (6, .take), (7, .take)] rfl ?_
        refine Sx.st_take hT rfl rfl rfl rfl (Sx.x_move hT rfl rfl) ?_
        clear hT; intro a hT
        refine Sx.st_take hT rfl rfl rfl rfl (Sx.x_move hT rfl rfl) ?_
        clear hT; intro a hT
        refine Sx.st_call hT rfl rfl rfl rfl rfl Try.can23 rfl (Group_calls ks (H.blk 0 rfl) (H.mp 1 rfl) hDs hDl (R4.at H.ext) (by omega) (fun l hl => by have := hkb l hl; omega)) ?_
        rintro _ w7 ⟨ag, cg, L, rfl, K, hL⟩
        refine ⟨_, rfl, ?_⟩
        clear hT; intro a hT
        replace H := H.more K rfl; clear K
        refine Sx.st_take hT rfl rfl rfl rfl (Sx.x_move hT rfl rfl) ?_
        clear hT; intro a hT
        refine Sx.st_take hT rfl rfl rfl rfl (Sx.x_extractL hT rfl rfl rfl) ?_
        clear hT; intro a hT
        refine Sx.st_take hT rfl rfl rfl rfl (Sx.x_extractL hT rfl rfl rfl) ?_
        clear hT; intro a hT
        refine Sx.st_take hT rfl rfl rfl rfl (Sx.x_assign hT rfl rfl) ?_
        clear hT; intro a hT
        refine Sx.st_take hT rfl rfl rfl rfl (Sx.x_assign hT rfl rfl) ?_
        clear hT; intro a hT
        replace hT := hT.keep [12, 11, 52, 10, 9, 40, 8, 7, 32, 28, 6, 0, 1, 2] rfl
        refine Sx.ser_nil ?_
        refine Sx.then_normal (hK17 _ _ ?_)
        clear hK17
        refine wp_seq_k fun K18 hK18 => ?_
        -- region 13 (law.go:175)
        refine Sx.wp_text [(0, .take)] rfl ?_
        refine Sx.st_take hT rfl rfl rfl rfl (Sx.x_assign hT rfl rfl) ?_
        clear hT; intro a hT
        replace hT := hT.keep [13, 12, 11, 52, 10, 9, 40, 8, 7, 32, 28, 6, 0, 1, 2] rfl
        refine Sx.ser_nil ?_
        refine Sx.then_normal (hK18 _ _ ?_)
        clear hK18
        refine wp_seq_k fun K19 hK19 => ?_
        refine wp_seq_k fun K20 hK20 => ?_
        -- region 14 (law.go:176)
        refine Sx.wp_text [(0, .take)] rfl ?_
        refine Sx.st_take hT rfl rfl rfl rfl (Sx.x_assign hT rfl rfl) ?_
        clear hT; intro a hT
        replace hT := hT.keep [14, 13, 12, 11, 52, 10, 9, 40, 8, 7, 32, 28, 6, 0, 1, 2] rfl
        refine Sx.ser_nil ?_
        refine Sx.then_normal (hK20 _ _ ?_)
        clear hK20
        refine wp_block ?_
        -- loop 0
        refine Sx.wp_loopH (G := Nat × Bool) (fun ⟨k, al⟩ => [(14, .int .i64 (k : Int)), (13, .bool al)]) (fun ⟨k, al⟩ => []) (fun ⟨k, al⟩ => k ≤ ks.length ∧ (al = true ↔ ∀ (t : Nat) q, t < k → ks[t]? = some q → (routeL D q).isSome = true)) (fun ⟨k, al⟩ => ks.length - k) (0, true) (hT.keep [14, 13, 12, 11, 52, 10, 9, 40, 8, 7, 32, 28, 6, 0, 1, 2] rfl) (H.keep [0, 1, 2, 3, 4] rfl rfl) (⟨Nat.zero_le _, fun _ t q h => by omega, fun _ => rfl⟩) ?_
        clear hT H
        rintro ⟨k, al⟩ a w8 hJ hT H
        replace hT := hT.keep [14, 13, 12, 11, 52, 10, 9, 40, 8, 7, 32, 28, 6, 0, 1, 2] rfl
        replace H := H.keep [0, 1, 2, 3, 4] rfl rfl
        obtain ⟨hk, hal⟩ := hJ
        refine wp_seq_k fun K21 hK21 => ?_
        refine wp_seq_k fun K22 hK22 => ?_
        -- region 15 (law.go:176)
        refine Sx.wp_text [(0, .take), (1, .take), (2, .take), (3, .take)] rfl ?_
        refine Sx.st_take hT rfl rfl rfl rfl (Sx.x_move hT rfl rfl) ?_
        clear hT; intro a hT
        refine Sx.st_take hT rfl rfl rfl rfl (Sx.x_move hT rfl rfl) ?_
        clear hT; intro a hT
        refine Sx.st_take hT rfl rfl rfl rfl (Sx.x_len_slice hT rfl rfl Try.underlying25 rfl) ?_
        clear hT; intro a hT
        refine Sx.st_take hT rfl rfl rfl rfl ((fun w => Sx.x_lt w hT rfl rfl rfl)) ?_
        clear hT; intro a hT
        replace hT := hT.keep [65, 14, 13, 12, 11, 52, 10, 9, 40, 8, 7, 32, 28, 6, 0, 1, 2] rfl
        refine Sx.ser_nil ?_
        refine Sx.then_normal (hK22 _ _ ?_)
        clear hK22
        -- cond 4
        refine Sx.wp_if hT rfl (fun hc23 => ?_) (fun hc23 => ?_)
        · try simp only [decide_eq_true_eq, decide_eq_false_iff_not, Bool.not_eq_true', Bool.not_eq_false', Bool.not_eq_true, Bool.not_eq_false, Bool.and_eq_true, Bool.or_eq_false_iff, beq_iff_eq, bne_iff_ne, Int.not_lt, Int.not_le, ne_eq] at hc23
          obtain ⟨key, hkey⟩ : ∃ o, ks[k]? = some o := ⟨_, List.getElem?_eq_getElem (by omega)⟩
          have hkl2 := hkb key (List.mem_of_getElem? hkey)
          refine wp_skip ?_
          refine Sx.then_normal (hK21 _ _ ?_)
          clear hK21
          refine wp_seq_k fun K24 hK24 => ?_
          refine wp_block ?_
          refine wp_seq_k fun K25 hK25 => ?_
          -- region 17 (law.go:177)
          refine Sx.wp_text [(0, .take), (1, .take), (2, .take), (3, .take), (4, .run), (5, .run), (6, .take), (7, .take), (8, .take), (9, .run), (10, .run), (11, .take)] rfl ?_
          refine Sx.st_take hT rfl rfl rfl rfl (Sx.x_move hT rfl rfl) ?_
          clear hT; intro a hT
          refine Sx.st_take hT rfl rfl rfl rfl (Sx.x_move hT rfl rfl) ?_
          clear hT; intro a hT
          refine Sx.st_take hT rfl rfl rfl rfl (Sx.x_move hT rfl rfl) ?_
          clear hT; intro a hT
          refine Sx.st_take hT rfl rfl rfl rfl (Sx.x_index (k := k) hT rfl Try.underlying25 Try.ti9 (R4.at H.ext).sv rfl rfl (by first | rfl | omega) (by omega)) ?_
          clear hT; intro a hT
          refine Sx.st_run hT rfl rfl rfl rfl (Sx.x_load1 hT rfl Try.fl9 rfl (by first | exact ((R4.at H.ext).cell (j := 0) kc_len hkey rfl) | exact ((R4.at H.ext).cell (j := 0) kc_len hkey3 rfl))) ?_
          clear hT; intro a hT
          refine Sx.st_call hT rfl rfl rfl rfl rfl Try.can15 rfl (Route_calls key (by omega) (H.blk 2 rfl) (H.mp 3 rfl)) ?_
          rintro _ w9 ⟨rfl, E⟩
          refine ⟨_, rfl, ?_⟩
          clear hT; intro a hT
          replace H := H.pure E; clear E
          obtain ⟨ro9, hro⟩ : ∃ o, routeL D key = o := ⟨_, rfl⟩
          rw [hro] at hT
          refine Sx.st_take hT rfl rfl rfl rfl (Sx.x_move hT rfl rfl) ?_
          clear hT; intro a hT
          refine Sx.st_take hT rfl rfl rfl rfl (Sx.x_extractL hT rfl rfl rfl) ?_
          clear hT; intro a hT
          refine Sx.st_take hT rfl rfl rfl rfl (Sx.x_extractL hT rfl rfl rfl) ?_
          clear hT; intro a hT
          refine Sx.st_eff hT rfl rfl rfl rfl (Sx.y_alloc hT rfl Try.ti37 rfl _) ?_
          clear hT; rintro _ w10 ⟨b1, rfl, N⟩ a hT
          replace H := H.new N; clear N
          refine Sx.st_act hT rfl rfl rfl (Sx.y_storeS hT rfl Try.ti37 rfl rfl rfl rfl rfl (H.blk 0 rfl) rfl) ?_
          rintro w11 ⟨hb, E, _⟩
          replace H := H.setB 0 rfl hb E rfl; clear hb E
          refine Sx.st_take hT rfl rfl rfl rfl (Sx.x_assign hT rfl rfl) ?_
          clear hT; intro a hT
          replace hT := hT.keep [16, 65, 14, 13, 12, 11, 52, 10, 9, 40, 8, 7, 32, 28, 6, 0, 1, 2] rfl
          refine Sx.ser_nil ?_
          refine Sx.then_normal (hK25 _ _ ?_)
          clear hK25
          -- region 18 (law.go:178)
          refine Sx.wp_text [(0, .take), (1, .take), (2, .take), (3, .take), (4, .take)] rfl ?_
          refine Sx.st_take hT rfl rfl rfl rfl (Sx.x_move hT rfl rfl) ?_
          clear hT; intro a hT
          refine Sx.st_take hT rfl rfl rfl rfl (Sx.x_move hT rfl rfl) ?_
          clear hT; intro a hT
          -- guard (18, 1)
          refine Sx.Sl.two hT 78 rfl (fun hc26 hT => ?_) (fun hc26 hT => ?_)
          · try simp only [decide_eq_true_eq, decide_eq_false_iff_not, Bool.not_eq_true', Bool.not_eq_false', Bool.not_eq_true, Bool.not_eq_false, Bool.and_eq_true, Bool.or_eq_false_iff, beq_iff_eq, bne_iff_ne, Int.not_lt, Int.not_le, ne_eq] at hc26
            refine Sx.st_take hT rfl rfl rfl rfl (Sx.x_move hT rfl rfl) ?_
            clear hT; intro a hT
            refine Sx.st_take hT rfl rfl rfl rfl (Sx.x_pick_t hT rfl rfl rfl) ?_
            clear hT; intro a hT
            refine Sx.st_take hT rfl rfl rfl rfl (Sx.x_assign hT rfl rfl) ?_
            clear hT; intro a hT
            replace hT := hT.keep [13, 16, 65, 14, 12, 11, 52, 10, 9, 40, 8, 7, 32, 28, 6, 0, 1, 2] rfl
            refine Sx.ser_nil ?_
            refine Sx.block_normal ?_
            refine Sx.then_normal (hK24 _ _ ?_)
            clear hK24
            -- region 16 (law.go:176)
            refine Sx.wp_text [(0, .take), (1, .take), (2, .take)] rfl ?_
            refine Sx.st_take hT rfl rfl rfl rfl (Sx.x_move hT rfl rfl) ?_
            clear hT; intro a hT
            refine Sx.st_take hT rfl rfl rfl rfl ((fun w => Sx.x_add w hT rfl rfl rfl (Sx.wrap64 (by omega)))) ?_
            clear hT; intro a hT
            refine Sx.st_take hT rfl rfl rfl rfl (Sx.x_assign hT rfl rfl) ?_
            clear hT; intro a hT
            replace hT := hT.keep [14, 13, 16, 65, 12, 11, 52, 10, 9, 40, 8, 7, 32, 28, 6, 0, 1, 2] rfl
            refine Sx.ser_nil ?_
            refine Sx.then_normal ?_
            exact ⟨(k + 1, ro9.isSome), ⟨by show k + 1 ≤ _; omega, ⟨fun h8 => ok_snoc (hal.1 (by assumption)) hkey (by rw [hro]; exact h8), fun h8 => by have := h8 k key (Nat.lt_succ_self k) hkey; rw [hro] at this; exact this⟩⟩, (hT.keep [14, 13, 12, 11, 52, 10, 9, 40, 8, 7, 32, 28, 6, 0, 1, 2] rfl), (H.keep [1, 2, 3, 4, 5] rfl rfl), by show _ - (k + 1) < _ - k; omega⟩
          · try simp only [decide_eq_true_eq, decide_eq_false_iff_not, Bool.not_eq_true', Bool.not_eq_false', Bool.not_eq_true, Bool.not_eq_false, Bool.and_eq_true, Bool.or_eq_false_iff, beq_iff_eq, bne_iff_ne, Int.not_lt, Int.not_le, ne_eq] at hc26
            refine Sx.st_skip hT rfl rfl rfl rfl ?_
            clear hT; intro a hT
            refine Sx.st_take hT rfl rfl rfl rfl (Sx.x_pick_f hT rfl rfl rfl) ?_
            clear hT; intro a hT
            refine Sx.st_take hT rfl rfl rfl rfl (Sx.x_assign hT rfl rfl) ?_
            clear hT; intro a hT
            replace hT := hT.keep [13, 16, 65, 14, 12, 11, 52, 10, 9, 40, 8, 7, 32, 28, 6, 0, 1, 2] rfl
            refine Sx.ser_nil ?_
            refine Sx.block_normal ?_
            refine Sx.then_normal (hK24 _ _ ?_)
            clear hK24
            -- region 16 (law.go:176)
            refine Sx.wp_text [(0, .take), (1, .take), (2, .take)] rfl ?_
            refine Sx.st_take hT rfl rfl rfl rfl (Sx.x_move hT rfl rfl) ?_
            clear hT; intro a hT
            refine Sx.st_take hT rfl rfl rfl rfl ((fun w => Sx.x_add w hT rfl rfl rfl (Sx.wrap64 (by omega)))) ?_
            clear hT; intro a hT
            refine Sx.st_take hT rfl rfl rfl rfl (Sx.x_assign hT rfl rfl) ?_
            clear hT; intro a hT
            replace hT := hT.keep [14, 13, 16, 65, 12, 11, 52, 10, 9, 40, 8, 7, 32, 28, 6, 0, 1, 2] rfl
            refine Sx.ser_nil ?_
            refine Sx.then_normal ?_
            exact ⟨(k + 1, false), ⟨by show k + 1 ≤ _; omega, ⟨fun h8 => (by cases h8), fun h8 => by have h7 := hal.2 (fun t q h3 h4 => h8 t q (Nat.lt_succ_of_lt h3) h4); simp_all⟩⟩, (hT.keep [14, 13, 12, 11, 52, 10, 9, 40, 8, 7, 32, 28, 6, 0, 1, 2] rfl), (H.keep [1, 2, 3, 4, 5] rfl rfl), by show _ - (k + 1) < _ - k; omega⟩
        · try simp only [decide_eq_true_eq, decide_eq_false_iff_not, Bool.not_eq_true', Bool.not_eq_false', Bool.not_eq_true, Bool.not_eq_false, Bool.and_eq_true, Bool.or_eq_false_iff, beq_iff_eq, bne_iff_ne, Int.not_lt, Int.not_le, ne_eq] at hc23
          have hkq : k = ks.length := by omega
          rw [hkq] at hal
          refine wp_exit ?_
          refine Sx.then_exit ?_
          refine Sx.then_exit ?_
          refine Sx.block_exit ?_
          refine Sx.then_normal (hK19 _ _ ?_)
          clear hK19
          refine wp_seq_k fun K27 hK27 => ?_
          refine wp_seq_k fun K28 hK28 => ?_
          -- region 19 (law.go:180)
          refine Sx.wp_text [(0, .take), (1, .take), (2, .take), (3, .take)] rfl ?_
          refine Sx.st_take hT rfl rfl rfl rfl (Sx.x_move hT rfl rfl) ?_
          clear hT; intro a hT
          refine Sx.st_take hT rfl rfl rfl rfl ((fun w => Sx.x_eq w hT rfl rfl rfl)) ?_
          clear hT; intro a hT
          refine Sx.st_take hT rfl rfl rfl rfl (Sx.x_move hT rfl rfl) ?_
          clear hT; intro a hT
          refine Sx.st_take hT rfl rfl rfl rfl (Sx.x_neb hT rfl Try.underlying4 rfl rfl) ?_
          clear hT; intro a hT
          have heq : decide (errG D ks = 0) = al := by
            rw [Bool.eq_iff_iff, decide_eq_true_iff, err_iff]
            exact hal.symm
          rw [heq] at hT
          replace hT := hT.keep [84, 65, 14, 13, 12, 11, 52, 10, 9, 40, 8, 7, 32, 28, 6, 0, 1, 2] rfl
          refine Sx.ser_nil ?_
          refine Sx.then_normal (hK28 _ _ ?_)
          clear hK28
          -- cond 5
          refine Sx.wp_if hT rfl (fun hc29 => ?_) (fun hc29 => ?_)
          · exfalso
            try simp only [decide_eq_true_eq, decide_eq_false_iff_not, Bool.not_eq_true', Bool.not_eq_false', Bool.not_eq_true, Bool.not_eq_false, Bool.and_eq_true, Bool.or_eq_false_iff, beq_iff_eq, bne_iff_ne, Int.not_lt, Int.not_le, ne_eq] at hc29
            simp at hc29
          · try simp only [decide_eq_true_eq, decide_eq_false_iff_not, Bool.not_eq_true', Bool.not_eq_false', Bool.not_eq_true, Bool.not_eq_false, Bool.and_eq_true, Bool.or_eq_false_iff, beq_iff_eq, bne_iff_ne, Int.not_lt, Int.not_le, ne_eq] at hc29
            refine wp_skip ?_
            refine Sx.then_normal (hK27 _ _ ?_)
            clear hK27
            refine wp_seq_k fun K30 hK30 => ?_
            refine wp_seq_k fun K31 hK31 => ?_
            -- region 21 (law.go:183)
            refine Sx.wp_text [(0, .take), (1, .take)] rfl ?_
            refine Sx.st_take hT rfl rfl rfl rfl (Sx.x_move hT rfl rfl) ?_
            clear hT; intro a hT
            refine Sx.st_take hT rfl rfl rfl rfl ((fun w => Sx.x_ne w hT rfl rfl rfl)) ?_
            clear hT; intro a hT
            replace hT := hT.keep [86, 84, 65, 14, 13, 12, 11, 52, 10, 9, 40, 8, 7, 32, 28, 6, 0, 1, 2] rfl
            refine Sx.ser_nil ?_
            refine Sx.then_normal (hK31 _ _ ?_)
            clear hK31
            -- cond 6
            refine Sx.wp_if hT rfl (fun hc32 => ?_) (fun hc32 => ?_)
            · try simp only [decide_eq_true_eq, decide_eq_false_iff_not, Bool.not_eq_true', Bool.not_eq_false', Bool.not_eq_true, Bool.not_eq_false, Bool.and_eq_true, Bool.or_eq_false_iff, beq_iff_eq, bne_iff_ne, Int.not_lt, Int.not_le, ne_eq] at hc32
              rw [if_neg hc32] at hL
              have hLn : L = [] := List.map_eq_nil_iff.1 hL
              refine wp_seq_k fun K33 hK33 => ?_
              -- region 22 (law.go:184)
              refine Sx.wp_text [(0, .run), (1, .take), (2, .take), (3, .take), (4, .take), (5, .take), (6, .take)] rfl ?_
              refine Sx.st_call hT rfl rfl rfl rfl rfl Try.can7 rfl (first_calls _) ?_
              rintro _ w12 ⟨rfl, E⟩
              refine ⟨_, rfl, ?_⟩
              clear hT; intro a hT
              replace H := H.pure E; clear E
              refine Sx.st_take hT rfl rfl rfl rfl (Sx.x_move hT rfl rfl) ?_
              clear hT; intro a hT
              refine Sx.st_take hT rfl rfl rfl rfl (Sx.x_move hT rfl rfl) ?_
              clear hT; intro a hT
              refine Sx.st_take hT rfl rfl rfl rfl (Sx.x_len_slice hT rfl rfl Try.underlying56 rfl) ?_
              clear hT; intro a hT
              refine Sx.st_take hT rfl rfl rfl rfl ((fun w => Sx.x_eq w hT rfl rfl rfl)) ?_
              clear hT; intro a hT
              refine Sx.st_take hT rfl rfl rfl rfl (Sx.x_pick_t hT rfl rfl rfl) ?_
              clear hT; intro a hT
              refine Sx.st_take hT rfl rfl rfl rfl (Sx.x_assign hT rfl rfl) ?_
              clear hT; intro a hT
              replace hT := hT.keep [6, 86, 84, 65, 14, 13, 12, 11, 52, 10, 9, 40, 8, 7, 32, 28, 0, 1, 2] rfl
              refine Sx.ser_nil ?_
              refine Sx.then_normal (hK33 _ _ ?_)
              clear hK33
              refine wp_ret ?_
              refine Sx.then_ret ?_
              refine Sx.done1 (fn := Try.f6) hT rfl (.tmp (hT.get 6 _ rfl)) ?_
              exact ⟨ret_b (by rw [hLn]; simp), H.ext⟩
            · try simp only [decide_eq_true_eq, decide_eq_false_iff_not, Bool.not_eq_true', Bool.not_eq_false', Bool.not_eq_true, Bool.not_eq_false, Bool.and_eq_true, Bool.or_eq_false_iff, beq_iff_eq, bne_iff_ne, Int.not_lt, Int.not_le, ne_eq] at hc32
              have he0 : errG D ks = 0 := hc32
              rw [if_pos he0] at hL
              have hLl : L.length ≤ 1000000 := by
                have h8 := congrArg List.length hL
                rw [List.length_map] at h8
                have h5 : (specG D ks).length ≤ D.length := List.length_filterMap_le _ _
                omega
              refine wp_skip ?_
              refine Sx.then_normal (hK30 _ _ ?_)
              clear hK30
              refine wp_seq_k fun K34 hK34 => ?_
              -- region 23 (law.go:186)
              refine Sx.wp_text [(0, .take)] rfl ?_
              refine Sx.st_take hT rfl rfl rfl rfl (Sx.x_assign hT rfl rfl) ?_
              clear hT; intro a hT
              replace hT := hT.keep [17, 86, 84, 65, 14, 13, 12, 11, 52, 10, 9, 40, 8, 7, 32, 28, 6, 0, 1, 2] rfl
              refine Sx.ser_nil ?_
              refine Sx.then_normal (hK34 _ _ ?_)
              clear hK34
              refine wp_seq_k fun K35 hK35 => ?_
              refine wp_seq_k fun K36 hK36 => ?_
              -- region 24 (law.go:187)
              refine Sx.wp_text [(0, .take)] rfl ?_
              refine Sx.st_take hT rfl rfl rfl rfl (Sx.x_assign hT rfl rfl) ?_
              clear hT; intro a hT
              replace hT := hT.keep [18, 17, 86, 84, 65, 14, 13, 12, 11, 52, 10, 9, 40, 8, 7, 32, 28, 6, 0, 1, 2] rfl
              refine Sx.ser_nil ?_
              refine Sx.then_normal (hK36 _ _ ?_)
              clear hK36
              refine wp_block ?_
              -- loop 1
              refine Sx.wp_loopH (G := Nat × Nat) (fun ⟨q, me⟩ => [(18, .int .i64 (q : Int)), (17, .int .i64 (me : Int))]) (fun ⟨q, me⟩ => []) (fun ⟨q, me⟩ => q ≤ L.length ∧ me = ((L.take q).map fun g => g.ks.length).sum) (fun ⟨q, me⟩ => L.length - q) (0, 0) (hT.keep [18, 17, 86, 84, 65, 14, 13, 12, 11, 52, 10, 9, 40, 8, 7, 32, 28, 0, 1, 2] rfl) (H.keep [0, 1, 2, 3, 4] rfl rfl) (⟨Nat.zero_le _, rfl⟩) ?_
              clear hT H
              rintro ⟨q, me⟩ a w13 hJ hT H
              replace hT := hT.keep [18, 17, 86, 84, 65, 14, 13, 12, 11, 52, 10, 9, 40, 8, 7, 32, 28, 0, 1, 2] rfl
              replace H := H.keep [0, 1, 2, 3, 4] rfl rfl
              obtain ⟨hq, hme⟩ := hJ
              refine wp_seq_k fun K37 hK37 => ?_
              refine wp_seq_k fun K38 hK38 => ?_
              -- region 25 (law.go:187)
              refine Sx.wp_text [(0, .take), (1, .take), (2, .take), (3, .take)] rfl ?_
              refine Sx.st_take hT rfl rfl rfl rfl (Sx.x_move hT rfl rfl) ?_
              clear hT; intro a hT
              refine Sx.st_take hT rfl rfl rfl rfl (Sx.x_move hT rfl rfl) ?_
              clear hT; intro a hT
              refine Sx.st_take hT rfl rfl rfl rfl (Sx.x_len_slice hT rfl rfl Try.underlying56 rfl) ?_
              clear hT; intro a hT
              refine Sx.st_take hT rfl rfl rfl rfl ((fun w => Sx.x_lt w hT rfl rfl rfl)) ?_
              clear hT; intro a hT
              replace hT := hT.keep [96, 18, 17, 86, 84, 65, 14, 13, 12, 11, 52, 10, 9, 40, 8, 7, 32, 28, 0, 1, 2] rfl
              refine Sx.ser_nil ?_
              refine Sx.then_normal (hK38 _ _ ?_)
              clear hK38
              -- cond 7
              refine Sx.wp_if hT rfl (fun hc39 => ?_) (fun hc39 => ?_)
              · try simp only [decide_eq_true_eq, decide_eq_false_iff_not, Bool.not_eq_true', Bool.not_eq_false', Bool.not_eq_true, Bool.not_eq_false, Bool.and_eq_true, Bool.or_eq_false_iff, beq_iff_eq, bne_iff_ne, Int.not_lt, Int.not_le, ne_eq] at hc39
                obtain ⟨g, hg⟩ : ∃ o, L[q]? = some o := ⟨_, List.getElem?_eq_getElem (by omega)⟩
                obtain ⟨hgn, -, -⟩ := spec_at hL hg
                have hmb := met_le hDs hL (err_iff.1 he0) hg
                rw [← hme] at hmb
                refine wp_skip ?_
                refine Sx.then_normal (hK37 _ _ ?_)
                clear hK37
                refine wp_seq_k fun K40 hK40 => ?_
                refine wp_block ?_
                refine wp_seq_k fun K41 hK41 => ?_
                refine Sx.wp_join (G := Unit) (fun _ => []) (fun _ => []) (fun _ => True) (hT.keep [96, 18, 17, 86, 84, 65, 14, 13, 12, 11, 52, 10, 9, 40, 8, 7, 32, 28, 0, 1, 2] rfl) (H.keep [0, 1, 2, 3, 4] rfl rfl) hK41 ?_ ?_
                · clear hT H hK41
                  rintro _ a w14 hJ hT H
                  replace hT := hT.keep [96, 18, 17, 86, 84, 65, 14, 13, 12, 11, 52, 10, 9, 40, 8, 7, 32, 28, 0, 1, 2] rfl
                  replace H := H.keep [0, 1, 2, 3, 4] rfl rfl
                  clear hJ
                  refine wp_seq_k fun K42 hK42 => ?_
                  -- region 29 (law.go:191)
                  refine Sx.wp_text [(0, .take)] rfl ?_
                  refine Sx.st_take hT rfl rfl rfl rfl (Sx.x_assign hT rfl rfl) ?_
                  clear hT; intro a hT
                  replace hT := hT.keep [19, 96, 18, 17, 86, 84, 65, 14, 13, 12, 11, 52, 10, 9, 40, 8, 7, 32, 28, 0, 1, 2] rfl
                  refine Sx.ser_nil ?_
                  refine Sx.then_normal (hK42 _ _ ?_)
                  clear hK42
                  refine wp_block ?_
                  -- loop 2
                  refine Sx.wp_loopH (G := Nat) (fun j => [(19, .int .i64 (j : Int)), (17, .int .i64 ((me + j : Nat) : Int))]) (fun j => []) (fun j => j ≤ g.ks.length) (fun j => g.ks.length - j) 0 (hT.keep [19, 17, 96, 18, 86, 84, 65, 14, 13, 12, 11, 52, 10, 9, 40, 8, 7, 32, 28, 0, 1, 2] rfl) (H.keep [0, 1, 2, 3, 4] rfl rfl) (Nat.zero_le _) ?_
                  clear hT H
                  rintro j a w15 hJ hT H
                  replace hT := hT.keep [19, 17, 96, 18, 86, 84, 65, 14, 13, 12, 11, 52, 10, 9, 40, 8, 7, 32, 28, 0, 1, 2] rfl
                  replace H := H.keep [0, 1, 2, 3, 4] rfl rfl
                  have hj : j ≤ g.ks.length := hJ
                  refine wp_seq_k fun K43 hK43 => ?_
                  refine wp_seq_k fun K44 hK44 => ?_
                  -- region 30 (law.go:191)
                  refine Sx.wp_text [(0, .take), (1, .take), (2, .take), (3, .take), (4, .take), (5, .run), (6, .take), (7, .take)] rfl ?_
                  refine Sx.st_take hT rfl rfl rfl rfl (Sx.x_move hT rfl rfl) ?_
                  clear hT; intro a hT
                  refine Sx.st_take hT rfl rfl rfl rfl (Sx.x_move hT rfl rfl) ?_
                  clear hT; intro a hT
                  refine Sx.st_take hT rfl rfl rfl rfl (Sx.x_move hT rfl rfl) ?_
                  clear hT; intro a hT
                  refine Sx.st_take hT rfl rfl rfl rfl (Sx.x_index (k := q) hT rfl Try.underlying56 Try.ti66 (H.row 0 rfl).sv rfl rfl (by first | rfl | omega) (by omega)) ?_
                  clear hT; intro a hT
                  refine Sx.st_take hT rfl rfl rfl rfl (Sx.x_fieldAddr hT rfl Try.fa66_1 rfl) ?_
                  clear hT; intro a hT
                  refine Sx.st_run hT rfl rfl rfl rfl (Sx.x_load1 hT rfl Try.fl25 rfl (by first | exact (((H.row 0 rfl).ssn rfl).cell (j := 4) Gr.len hg rfl) | exact (((H.row 0 rfl).ssn rfl).cell (j := 0) Gr.len hg rfl) | exact (((H.row 0 rfl).ssn rfl).cell (j := 0) Gr.len hg1 rfl) | exact ((fam_r (H.at 1 rfl) hg).cell (j := 0) kc_len hkey2 rfl) | exact ((fam_r (H.at 1 rfl) hg).cell (j := 0) kc_len hkey4 rfl))) ?_
                  clear hT; intro a hT
                  refine Sx.st_take hT rfl rfl rfl rfl (Sx.x_len_slice hT rfl rfl Try.underlying25 rfl) ?_
                  clear hT; intro a hT
                  refine Sx.st_take hT rfl rfl rfl rfl ((fun w => Sx.x_lt w hT rfl rfl rfl)) ?_
                  clear hT; intro a hT
                  replace hT := hT.keep [133, 19, 17, 96, 18, 86, 84, 65, 14, 13, 12, 11, 52, 10, 9, 40, 8, 7, 32, 28, 0, 1, 2] rfl
                  refine Sx.ser_nil ?_
                  refine Sx.then_normal (hK44 _ _ ?_)
                  clear hK44
                  -- cond 9
                  refine Sx.wp_if hT rfl (fun hc45 => ?_) (fun hc45 => ?_)
                  · try simp only [decide_eq_true_eq, decide_eq_false_iff_not, Bool.not_eq_true', Bool.not_eq_false', Bool.not_eq_true, Bool.not_eq_false, Bool.and_eq_true, Bool.or_eq_false_iff, beq_iff_eq, bne_iff_ne, Int.not_lt, Int.not_le, ne_eq] at hc45
                    obtain ⟨key2, hkey2⟩ : ∃ o, g.ks[j]? = some o := ⟨_, List.getElem?_eq_getElem (by omega)⟩
                    have hkl3 : key2.length ≤ 140737488351232 := hkb key2 (fil_mem.1 (by rw [← (spec_at hL hg).2.1]; exact List.mem_of_getElem? hkey2)).1
                    refine wp_skip ?_
                    refine Sx.then_normal (hK43 _ _ ?_)
                    clear hK43
                    refine wp_seq_k fun K46 hK46 => ?_
                    refine wp_block ?_
                    refine wp_seq_k fun K47 hK47 => ?_
                    -- region 32 (law.go:192)
                    refine Sx.wp_text [(0, .take), (1, .take), (2, .take), (3, .take), (4, .take), (5, .run), (6, .take), (7, .take), (8, .run), (9, .run), (10, .take), (11, .take), (12, .take), (13, .run), (14, .run), (15, .take)] rfl ?_
                    refine Sx.st_take hT rfl rfl rfl rfl (Sx.x_move hT rfl rfl) ?_
                    clear hT; intro a hT
                    refine Sx.st_take hT rfl rfl rfl rfl (Sx.x_move hT rfl rfl) ?_
                    clear hT; intro a hT
                    refine Sx.st_take hT rfl rfl rfl rfl (Sx.x_move hT rfl rfl) ?_
                    clear hT; intro a hT
                    refine Sx.st_take hT rfl rfl rfl rfl (Sx.x_index (k := q) hT rfl Try.underlying56 Try.ti66 (H.row 0 rfl).sv rfl rfl (by first | rfl | omega) (by omega)) ?_
                    clear hT; intro a hT
                    refine Sx.st_take hT rfl rfl rfl rfl (Sx.x_fieldAddr hT rfl Try.fa66_1 rfl) ?_
                    clear hT; intro a hT
                    refine Sx.st_run hT rfl rfl rfl rfl (Sx.x_load1 hT rfl Try.fl25 rfl (by first | exact (((H.row 0 rfl).ssn rfl).cell (j := 4) Gr.len hg rfl) | exact (((H.row 0 rfl).ssn rfl).cell (j := 0) Gr.len hg rfl) | exact (((H.row 0 rfl).ssn rfl).cell (j := 0) Gr.len hg1 rfl) | exact ((fam_r (H.at 1 rfl) hg).cell (j := 0) kc_len hkey2 rfl) | exact ((fam_r (H.at 1 rfl) hg).cell (j := 0) kc_len hkey4 rfl))) ?_
                    clear hT; intro a hT
                    refine Sx.st_take hT rfl rfl rfl rfl (Sx.x_move hT rfl rfl) ?_
                    clear hT; intro a hT
                    refine Sx.st_take hT rfl rfl rfl rfl (Sx.x_index (k := j) hT rfl Try.underlying25 Try.ti9 (fam_r (H.at 1 rfl) hg).sv rfl rfl (by first | rfl | omega) (by omega)) ?_
                    clear hT; intro a hT
                    refine Sx.st_run hT rfl rfl rfl rfl (Sx.x_load1 hT rfl Try.fl9 rfl (by first | exact (((H.row 0 rfl).ssn rfl).cell (j := 4) Gr.len hg rfl) | exact (((H.row 0 rfl).ssn rfl).cell (j := 0) Gr.len hg rfl) | exact (((H.row 0 rfl).ssn rfl).cell (j := 0) Gr.len hg1 rfl) | exact ((fam_r (H.at 1 rfl) hg).cell (j := 0) kc_len hkey2 rfl) | exact ((fam_r (H.at 1 rfl) hg).cell (j := 0) kc_len hkey4 rfl))) ?_
                    clear hT; intro a hT
                    refine Sx.st_call hT rfl rfl rfl rfl rfl Try.can15 rfl (Route_calls key2 (by omega) (H.blk 2 rfl) (H.mp 3 rfl)) ?_
                    rintro _ w16 ⟨rfl, E⟩
                    refine ⟨_, rfl, ?_⟩
                    clear hT; intro a hT
                    replace H := H.pure E; clear E
                    obtain ⟨ro9, hro⟩ : ∃ o, routeL D key2 = o := ⟨_, rfl⟩
                    rw [hro] at hT
                    obtain rfl : ro9 = some g.rg := hro.symm.trans (spec_route hDs hL hg (List.mem_of_getElem? hkey2))
                    refine Sx.st_take hT rfl rfl rfl rfl (Sx.x_move hT rfl rfl) ?_
                    clear hT; intro a hT
                    refine Sx.st_take hT rfl rfl rfl rfl (Sx.x_extractL hT rfl rfl rfl) ?_
                    clear hT; intro a hT
                    refine Sx.st_take hT rfl rfl rfl rfl (Sx.x_extractL hT rfl rfl rfl) ?_
                    clear hT; intro a hT
                    refine Sx.st_eff hT rfl rfl rfl rfl (Sx.y_alloc hT rfl Try.ti37 rfl _) ?_
                    clear hT; rintro _ w17 ⟨b2, rfl, N⟩ a hT
                    replace H := H.new N; clear N
                    refine Sx.st_act hT rfl rfl rfl (Sx.y_storeS hT rfl Try.ti37 rfl rfl rfl rfl rfl (H.blk 0 rfl) rfl) ?_
                    rintro w18 ⟨hb, E, _⟩
                    replace H := H.setB 0 rfl hb E rfl; clear hb E
                    refine Sx.st_take hT rfl rfl rfl rfl (Sx.x_assign hT rfl rfl) ?_
                    clear hT; intro a hT
                    replace hT := hT.keep [21, 20, 133, 19, 17, 96, 18, 86, 84, 65, 14, 13, 12, 11, 52, 10, 9, 40, 8, 7, 32, 28, 0, 1, 2] rfl
                    refine Sx.ser_nil ?_
                    refine Sx.then_normal (hK47 _ _ ?_)
                    clear hK47
                    refine wp_seq_k fun K48 hK48 => ?_
                    refine wp_seq_k fun K49 hK49 => ?_
                    -- region 33 (law.go:193)
                    refine Sx.wp_draws (fun u => Sx.Ext (Sx.No) u) [(0, .take), (1, .take), (2, .take), (3, .held), (4, .take), (5, .take), (6, .take), (7, .take), (8, .held), (9, .run), (10, .take), (11, .take)] (by kernel_rfl) (by kernel_rfl) (fun u E _ => ?_)
                    replace H := H.pure E; clear E
                    have hH : Sx.Ext (Sx.No) u u := Sx.Ext.refl _ _
                    have Hu := H
                    refine Sx.st_take hT rfl rfl rfl rfl (Sx.x_move hT rfl rfl) ?_
                    clear hT; intro a hT
                    refine Sx.st_take hT rfl rfl rfl rfl (Sx.x_not hT rfl rfl) ?_
                    clear hT; intro a hT
                    refine Sx.st_take hT rfl rfl rfl rfl (Sx.x_move hT rfl rfl) ?_
                    clear hT; intro a hT
                    -- guard (33, 2)
                    refine Sx.Sl.two hT 151 rfl (fun hc50 hT => ?_) (fun hc50 hT => ?_)
                    · exfalso
                      try simp only [decide_eq_true_eq, decide_eq_false_iff_not, Bool.not_eq_true', Bool.not_eq_false', Bool.not_eq_true, Bool.not_eq_false, Bool.and_eq_true, Bool.or_eq_false_iff, beq_iff_eq, bne_iff_ne, Int.not_lt, Int.not_le, ne_eq] at hc50
                      simp at hc50
                    · try simp only [decide_eq_true_eq, decide_eq_false_iff_not, Bool.not_eq_true', Bool.not_eq_false', Bool.not_eq_true, Bool.not_eq_false, Bool.and_eq_true, Bool.or_eq_false_iff, beq_iff_eq, bne_iff_ne, Int.not_lt, Int.not_le, ne_eq] at hc50
                      refine Sx.st_held hT rfl rfl rfl rfl hH (fun w' h' => Sx.y_loadS hT rfl Try.underlying37 Try.ti37 rfl ((Hu.heldB 0 rfl h' Sx.off_No).seg (k := 4) rfl) (by rfl)) ?_
                      clear hT; intro a hT
                      refine Sx.st_take hT rfl rfl rfl rfl (Sx.x_move hT rfl rfl) ?_
                      clear hT; intro a hT
                      refine Sx.st_take hT rfl rfl rfl rfl (Sx.x_move hT rfl rfl) ?_
                      clear hT; intro a hT
                      refine Sx.st_take hT rfl rfl rfl rfl (Sx.x_index (k := q) hT rfl Try.underlying56 Try.ti66 (H.row 1 rfl).sv rfl rfl (by first | rfl | omega) (by omega)) ?_
                      clear hT; intro a hT
                      refine Sx.st_take hT rfl rfl rfl rfl (Sx.x_fieldAddr hT rfl Try.fa66_0 rfl) ?_
                      clear hT; intro a hT
                      refine Sx.st_held hT rfl rfl rfl rfl hH (fun w' h' => Sx.y_loadS hT rfl Try.underlying37 Try.ti37 rfl ((((Hu.heldR 1 rfl h' Sx.off_No).ssn rfl).cs Gr.len hg).take 4) (by rfl)) ?_
                      clear hT; intro a hT
                      refine Sx.st_call hT rfl rfl rfl rfl rfl Try.can19 rfl (Range_calls g.rg g.rg _) ?_
                      rintro _ w19 ⟨rfl, E⟩
                      refine ⟨_, rfl, ?_⟩
                      clear hT; intro a hT
                      replace H := H.pure E; clear E
                      refine Sx.st_take hT rfl rfl rfl rfl (Sx.x_not hT rfl rfl) ?_
                      clear hT; intro a hT
                      refine Sx.st_take hT rfl rfl rfl rfl (Sx.x_pick_f hT rfl rfl rfl) ?_
                      clear hT; intro a hT
                      replace hT := hT.keep [160, 21, 20, 133, 19, 17, 96, 18, 86, 84, 65, 14, 13, 12, 11, 52, 10, 9, 40, 8, 7, 32, 28, 0, 1, 2] rfl
                      clear Hu hH
                      refine Sx.ser_calm ?_
                      refine Sx.then_normal (hK49 _ _ ?_)
                      clear hK49
                      -- cond 10
                      refine Sx.wp_if hT rfl (fun hc51 => ?_) (fun hc51 => ?_)
                      · exfalso
                        try simp only [decide_eq_true_eq, decide_eq_false_iff_not, Bool.not_eq_true', Bool.not_eq_false', Bool.not_eq_true, Bool.not_eq_false, Bool.and_eq_true, Bool.or_eq_false_iff, beq_iff_eq, bne_iff_ne, Int.not_lt, Int.not_le, ne_eq] at hc51
                        simp at hc51
                      · try simp only [decide_eq_true_eq, decide_eq_false_iff_not, Bool.not_eq_true', Bool.not_eq_false', Bool.not_eq_true, Bool.not_eq_false, Bool.and_eq_true, Bool.or_eq_false_iff, beq_iff_eq, bne_iff_ne, Int.not_lt, Int.not_le, ne_eq] at hc51
                        refine wp_skip ?_
                        refine Sx.then_normal (hK48 _ _ ?_)
                        clear hK48
                        refine wp_seq_k fun K52 hK52 => ?_
                        refine wp_seq_k fun K53 hK53 => ?_
                        -- region 35 (law.go:196)
                        refine Sx.wp_text [(0, .take)] rfl ?_
                        refine Sx.st_take hT rfl rfl rfl rfl (Sx.x_assign hT rfl rfl) ?_
                        clear hT; intro a hT
                        replace hT := hT.keep [22, 160, 21, 20, 133, 19, 17, 96, 18, 86, 84, 65, 14, 13, 12, 11, 52, 10, 9, 40, 8, 7, 32, 28, 0, 1, 2] rfl
                        refine Sx.ser_nil ?_
                        refine Sx.then_normal (hK53 _ _ ?_)
                        clear hK53
                        refine wp_block ?_
                        -- loop 3
                        refine Sx.wp_loopH (G := Nat) (fun i => [(22, .int .i64 (i : Int))]) (fun i => []) (fun i => i ≤ j) (fun i => j - i) 0 (hT.keep [22, 160, 21, 20, 133, 19, 17, 96, 18, 86, 84, 65, 14, 13, 12, 11, 52, 10, 9, 40, 8, 7, 32, 28, 0, 1, 2] rfl) (H.keep [0, 1, 2, 3, 4, 5] rfl rfl) (Nat.zero_le _) ?_
                        clear hT H
                        rintro i a w20 hJ hT H
                        replace hT := hT.keep [22, 160, 21, 20, 133, 19, 17, 96, 18, 86, 84, 65, 14, 13, 12, 11, 52, 10, 9, 40, 8, 7, 32, 28, 0, 1, 2] rfl
                        replace H := H.keep [0, 1, 2, 3, 4, 5] rfl rfl
                        have hi : i ≤ j := hJ
                        refine wp_seq_k fun K54 hK54 => ?_
                        refine wp_seq_k fun K55 hK55 => ?_
                        -- region 36 (law.go:196)
                        refine Sx.wp_text [(0, .take), (1, .take), (2, .take)] rfl ?_
                        refine Sx.st_take hT rfl rfl rfl rfl (Sx.x_move hT rfl rfl) ?_
                        clear hT; intro a hT
                        refine Sx.st_take hT rfl rfl rfl rfl (Sx.x_move hT rfl rfl) ?_
                        clear hT; intro a hT
                        refine Sx.st_take hT rfl rfl rfl rfl ((fun w => Sx.x_lt w hT rfl rfl rfl)) ?_
                        clear hT; intro a hT
                        replace hT := hT.keep [163, 22, 160, 21, 20, 133, 19, 17, 96, 18, 86, 84, 65, 14, 13, 12, 11, 52, 10, 9, 40, 8, 7, 32, 28, 0, 1, 2] rfl
                        refine Sx.ser_nil ?_
                        refine Sx.then_normal (hK55 _ _ ?_)
                        clear hK55
                        -- cond 11
                        refine Sx.wp_if hT rfl (fun hc56 => ?_) (fun hc56 => ?_)
                        · try simp only [decide_eq_true_eq, decide_eq_false_iff_not, Bool.not_eq_true', Bool.not_eq_false', Bool.not_eq_true, Bool.not_eq_false, Bool.and_eq_true, Bool.or_eq_false_iff, beq_iff_eq, bne_iff_ne, Int.not_lt, Int.not_le, ne_eq] at hc56
                          obtain ⟨key4, hkey4⟩ : ∃ o, g.ks[i]? = some o := ⟨_, List.getElem?_eq_getElem (by omega)⟩
                          refine wp_skip ?_
                          refine Sx.then_normal (hK54 _ _ ?_)
                          clear hK54
                          refine wp_seq_k fun K57 hK57 => ?_
                          refine wp_block ?_
                          refine wp_seq_k fun K58 hK58 => ?_
                          -- region 38 (law.go:197)
                          refine Sx.wp_draws (fun u => Sx.Ext (Sx.No) u) [(0, .take), (1, .take), (2, .take), (3, .take), (4, .held), (5, .take), (6, .take), (7, .held), (8, .take), (9, .take), (10, .take), (11, .take), (12, .held), (13, .take), (14, .take), (15, .held), (16, .take)] (by kernel_rfl) (by kernel_rfl) (fun u E _ => ?_)
                          replace H := H.pure E; clear E
                          have hH : Sx.Ext (Sx.No) u u := Sx.Ext.refl _ _
                          have Hu := H
                          refine Sx.st_take hT rfl rfl rfl rfl (Sx.x_move hT rfl rfl) ?_
                          clear hT; intro a hT
                          refine Sx.st_take hT rfl rfl rfl rfl (Sx.x_move hT rfl rfl) ?_
                          clear hT; intro a hT
                          refine Sx.st_take hT rfl rfl rfl rfl (Sx.x_index (k := q) hT rfl Try.underlying56 Try.ti66 (H.row 1 rfl).sv rfl rfl (by first | rfl | omega) (by omega)) ?_
                          clear hT; intro a hT
                          refine Sx.st_take hT rfl rfl rfl rfl (Sx.x_fieldAddr hT rfl Try.fa66_1 rfl) ?_
                          clear hT; intro a hT
                          refine Sx.st_held hT rfl rfl rfl rfl hH (fun w' h' => Sx.x_load1 hT rfl Try.fl25 rfl (by first | exact (((Hu.heldR 1 rfl h' Sx.off_No).ssn rfl).cell (j := 4) Gr.len hg rfl) | exact (((Hu.heldR 1 rfl h' Sx.off_No).ssn rfl).cell (j := 0) Gr.len hg rfl) | exact (((Hu.heldR 1 rfl h' Sx.off_No).ssn rfl).cell (j := 0) Gr.len hg1 rfl) | exact ((fam_r (Hu.held 2 rfl h' Sx.off_No) hg).cell (j := 0) kc_len hkey2 rfl) | exact ((fam_r (Hu.held 2 rfl h' Sx.off_No) hg).cell (j := 0) kc_len hkey4 rfl))) ?_
                          clear hT; intro a hT
                          refine Sx.st_take hT rfl rfl rfl rfl (Sx.x_move hT rfl rfl) ?_
                          clear hT; intro a hT
                          refine Sx.st_take hT rfl rfl rfl rfl (Sx.x_index (k := i) hT rfl Try.underlying25 Try.ti9 (fam_r (H.at 2 rfl) hg).sv rfl rfl (by first | rfl | omega) (by omega)) ?_
                          clear hT; intro a hT
                          refine Sx.st_held hT rfl rfl rfl rfl hH (fun w' h' => Sx.x_load1 hT rfl Try.fl9 rfl (by first | exact ((Hu.heldB 0 rfl h' Sx.off_No).nth rfl) | exact (((Hu.heldR 1 rfl h' Sx.off_No).ssn rfl).cell (j := 4) Gr.len hg rfl) | exact (((Hu.heldR 1 rfl h' Sx.off_No).ssn rfl).cell (j := 0) Gr.len hg rfl) | exact (((Hu.heldR 1 rfl h' Sx.off_No).ssn rfl).cell (j := 0) Gr.len hg1 rfl) | exact ((fam_r (Hu.held 2 rfl h' Sx.off_No) hg).cell (j := 0) kc_len hkey2 rfl) | exact ((fam_r (Hu.held 2 rfl h' Sx.off_No) hg).cell (j := 0) kc_len hkey4 rfl))) ?_
                          clear hT; intro a hT
                          refine Sx.st_take hT rfl rfl rfl rfl (Sx.x_move hT rfl rfl) ?_
                          clear hT; intro a hT
                          refine Sx.st_take hT rfl rfl rfl rfl (Sx.x_move hT rfl rfl) ?_
                          clear hT; intro a hT
                          refine Sx.st_take hT rfl rfl rfl rfl (Sx.x_index (k := q) hT rfl Try.underlying56 Try.ti66 (H.row 1 rfl).sv rfl rfl (by first | rfl | omega) (by omega)) ?_
                          clear hT; intro a hT
                          refine Sx.st_take hT rfl rfl rfl rfl (Sx.x_fieldAddr hT rfl Try.fa66_1 rfl) ?_
                          clear hT; intro a hT
                          refine Sx.st_held hT rfl rfl rfl rfl hH (fun w' h' => Sx.x_load1 hT rfl Try.fl25 rfl (by first | exact (((Hu.heldR 1 rfl h' Sx.off_No).ssn rfl).cell (j := 4) Gr.len hg rfl) | exact (((Hu.heldR 1 rfl h' Sx.off_No).ssn rfl).cell (j := 0) Gr.len hg rfl) | exact (((Hu.heldR 1 rfl h' Sx.off_No).ssn rfl).cell (j := 0) Gr.len hg1 rfl) | exact ((fam_r (Hu.held 2 rfl h' Sx.off_No) hg).cell (j := 0) kc_len hkey2 rfl) | exact ((fam_r (Hu.held 2 rfl h' Sx.off_No) hg).cell (j := 0) kc_len hkey4 rfl))) ?_
                          clear hT; intro a hT
                          refine Sx.st_take hT rfl rfl rfl rfl (Sx.x_move hT rfl rfl) ?_
                          clear hT; intro a hT
                          refine Sx.st_take hT rfl rfl rfl rfl (Sx.x_index (k := j) hT rfl Try.underlying25 Try.ti9 (fam_r (H.at 2 rfl) hg).sv rfl rfl (by first | rfl | omega) (by omega)) ?_
                          clear hT; intro a hT
                          refine Sx.st_held hT rfl rfl rfl rfl hH (fun w' h' => Sx.x_load1 hT rfl Try.fl9 rfl (by first | exact ((Hu.heldB 0 rfl h' Sx.off_No).nth rfl) | exact (((Hu.heldR 1 rfl h' Sx.off_No).ssn rfl).cell (j := 4) Gr.len hg rfl) | exact (((Hu.heldR 1 rfl h' Sx.off_No).ssn rfl).cell (j := 0) Gr.len hg rfl) | exact (((Hu.heldR 1 rfl h' Sx.off_No).ssn rfl).cell (j := 0) Gr.len hg1 rfl) | exact ((fam_r (Hu.held 2 rfl h' Sx.off_No) hg).cell (j := 0) kc_len hkey2 rfl) | exact ((fam_r (Hu.held 2 rfl h' Sx.off_No) hg).cell (j := 0) kc_len hkey4 rfl))) ?_
                          clear hT; intro a hT
                          refine Sx.st_take hT rfl rfl rfl rfl ((fun w => Sx.x_streq w hT rfl rfl rfl)) ?_
                          clear hT; intro a hT
                          replace hT := hT.keep [182, 163, 22, 160, 21, 20, 133, 19, 17, 96, 18, 86, 84, 65, 14, 13, 12, 11, 52, 10, 9, 40, 8, 7, 32, 28, 0, 1, 2] rfl
                          clear Hu hH
                          refine Sx.ser_calm ?_
                          refine Sx.then_normal (hK58 _ _ ?_)
                          clear hK58
                          -- cond 12
                          refine Sx.wp_if hT rfl (fun hc59 => ?_) (fun hc59 => ?_)
                          · exfalso
                            try simp only [decide_eq_true_eq, decide_eq_false_iff_not, Bool.not_eq_true', Bool.not_eq_false', Bool.not_eq_true, Bool.not_eq_false, Bool.and_eq_true, Bool.or_eq_false_iff, beq_iff_eq, bne_iff_ne, Int.not_lt, Int.not_le, ne_eq] at hc59
                            exact spec_nodup hL hg (by omega) hkey4 hkey2 (by simpa using hc59)
                          · try simp only [decide_eq_true_eq, decide_eq_false_iff_not, Bool.not_eq_true', Bool.not_eq_false', Bool.not_eq_true, Bool.not_eq_false, Bool.and_eq_true, Bool.or_eq_false_iff, beq_iff_eq, bne_iff_ne, Int.not_lt, Int.not_le, ne_eq] at hc59
                            refine wp_skip ?_
                            refine Sx.block_normal ?_
                            refine Sx.then_normal (hK57 _ _ ?_)
                            clear hK57
                            -- region 37 (law.go:196)
                            refine Sx.wp_text [(0, .take), (1, .take), (2, .take)] rfl ?_
                            refine Sx.st_take hT rfl rfl rfl rfl (Sx.x_move hT rfl rfl) ?_
                            clear hT; intro a hT
                            refine Sx.st_take hT rfl rfl rfl rfl ((fun w => Sx.x_add w hT rfl rfl rfl (Sx.wrap64 (by omega)))) ?_
                            clear hT; intro a hT
                            refine Sx.st_take hT rfl rfl rfl rfl (Sx.x_assign hT rfl rfl) ?_
                            clear hT; intro a hT
                            replace hT := hT.keep [22, 182, 163, 160, 21, 20, 133, 19, 17, 96, 18, 86, 84, 65, 14, 13, 12, 11, 52, 10, 9, 40, 8, 7, 32, 28, 0, 1, 2] rfl
                            refine Sx.ser_nil ?_
                            refine Sx.then_normal ?_
                            exact ⟨i + 1, (by omega), (hT.keep [22, 160, 21, 20, 133, 19, 17, 96, 18, 86, 84, 65, 14, 13, 12, 11, 52, 10, 9, 40, 8, 7, 32, 28, 0, 1, 2] rfl), (H.keep [0, 1, 2, 3, 4, 5] rfl rfl), by omega⟩
                        · try simp only [decide_eq_true_eq, decide_eq_false_iff_not, Bool.not_eq_true', Bool.not_eq_false', Bool.not_eq_true, Bool.not_eq_false, Bool.and_eq_true, Bool.or_eq_false_iff, beq_iff_eq, bne_iff_ne, Int.not_lt, Int.not_le, ne_eq] at hc56
                          refine wp_exit ?_
                          refine Sx.then_exit ?_
                          refine Sx.then_exit ?_
                          refine Sx.block_exit ?_
                          refine Sx.then_normal (hK52 _ _ ?_)
                          clear hK52
                          -- region 40 (law.go:201)
                          refine Sx.wp_text [(0, .take), (1, .take), (2, .take)] rfl ?_
                          refine Sx.st_take hT rfl rfl rfl rfl (Sx.x_move hT rfl rfl) ?_
                          clear hT; intro a hT
                          refine Sx.st_take hT rfl rfl rfl rfl ((fun w => Sx.x_add w hT rfl rfl rfl (Sx.wrap64 (by omega)))) ?_
                          clear hT; intro a hT
                          refine Sx.st_take hT rfl rfl rfl rfl (Sx.x_assign hT rfl rfl) ?_
                          clear hT; intro a hT
                          replace hT := hT.keep [17, 163, 22, 160, 21, 20, 133, 19, 96, 18, 86, 84, 65, 14, 13, 12, 11, 52, 10, 9, 40, 8, 7, 32, 28, 0, 1, 2] rfl
                          refine Sx.ser_nil ?_
                          refine Sx.block_normal ?_
                          refine Sx.then_normal (hK46 _ _ ?_)
                          clear hK46
                          -- region 31 (law.go:191)
                          refine Sx.wp_text [(0, .take), (1, .take), (2, .take)] rfl ?_
                          refine Sx.st_take hT rfl rfl rfl rfl (Sx.x_move hT rfl rfl) ?_
                          clear hT; intro a hT
                          refine Sx.st_take hT rfl rfl rfl rfl ((fun w => Sx.x_add w hT rfl rfl rfl (Sx.wrap64 (by omega)))) ?_
                          clear hT; intro a hT
                          refine Sx.st_take hT rfl rfl rfl rfl (Sx.x_assign hT rfl rfl) ?_
                          clear hT; intro a hT
                          replace hT := hT.keep [19, 17, 163, 22, 160, 21, 20, 133, 96, 18, 86, 84, 65, 14, 13, 12, 11, 52, 10, 9, 40, 8, 7, 32, 28, 0, 1, 2] rfl
                          refine Sx.ser_nil ?_
                          refine Sx.then_normal ?_
                          exact ⟨j + 1, (by omega), (hT.keep [19, 17, 96, 18, 86, 84, 65, 14, 13, 12, 11, 52, 10, 9, 40, 8, 7, 32, 28, 0, 1, 2] rfl), (H.keep [1, 2, 3, 4, 5] rfl rfl), by omega⟩
                  · try simp only [decide_eq_true_eq, decide_eq_false_iff_not, Bool.not_eq_true', Bool.not_eq_false', Bool.not_eq_true, Bool.not_eq_false, Bool.and_eq_true, Bool.or_eq_false_iff, beq_iff_eq, bne_iff_ne, Int.not_lt, Int.not_le, ne_eq] at hc45
                    have hjk : j = g.ks.length := by omega
                    rw [hjk] at hT
                    refine wp_exit ?_
                    refine Sx.then_exit ?_
                    refine Sx.then_exit ?_
                    refine Sx.block_exit ?_
                    refine Sx.block_normal ?_
                    refine Sx.then_normal (hK40 _ _ ?_)
                    clear hK40
                    -- region 26 (law.go:187)
                    refine Sx.wp_text [(0, .take), (1, .take), (2, .take)] rfl ?_
                    refine Sx.st_take hT rfl rfl rfl rfl (Sx.x_move hT rfl rfl) ?_
                    clear hT; intro a hT
                    refine Sx.st_take hT rfl rfl rfl rfl ((fun w => Sx.x_add w hT rfl rfl rfl (Sx.wrap64 (by omega)))) ?_
                    clear hT; intro a hT
                    refine Sx.st_take hT rfl rfl rfl rfl (Sx.x_assign hT rfl rfl) ?_
                    clear hT; intro a hT
                    replace hT := hT.keep [18, 133, 19, 17, 96, 86, 84, 65, 14, 13, 12, 11, 52, 10, 9, 40, 8, 7, 32, 28, 0, 1, 2] rfl
                    refine Sx.ser_nil ?_
                    refine Sx.then_normal ?_
                    exact ⟨(q + 1, me + g.ks.length), ⟨by show q + 1 ≤ _; omega, by show me + _ = ((L.take (q + 1)).map _).sum; rw [met_snoc hg, ← hme]⟩, (hT.keep [18, 17, 86, 84, 65, 14, 13, 12, 11, 52, 10, 9, 40, 8, 7, 32, 28, 0, 1, 2] rfl), (H.keep [0, 1, 2, 3, 4] rfl rfl), by show _ - (q + 1) < _ - q; omega⟩
                · clear hK41; intro hJK41
                  refine wp_seq_k fun K60 hK60 => ?_
                  -- region 27 (law.go:188)
                  refine Sx.wp_draws (fun u => Sx.Ext (Sx.No) u) [(0, .take), (1, .take), (2, .take), (3, .take), (4, .held), (5, .take), (6, .take), (7, .take), (8, .take), (9, .take), (10, .take), (11, .take), (12, .take), (13, .take), (14, .take), (15, .take), (16, .held), (17, .take), (18, .take), (19, .take), (20, .take), (21, .take), (22, .take), (23, .held), (24, .take), (25, .take), (26, .take)] (by kernel_rfl) (by kernel_rfl) (fun u E _ => ?_)
                  replace H := H.pure E; clear E
                  have hH : Sx.Ext (Sx.No) u u := Sx.Ext.refl _ _
                  have Hu := H
                  refine Sx.st_take hT rfl rfl rfl rfl (Sx.x_move hT rfl rfl) ?_
                  clear hT; intro a hT
                  refine Sx.st_take hT rfl rfl rfl rfl (Sx.x_move hT rfl rfl) ?_
                  clear hT; intro a hT
                  refine Sx.st_take hT rfl rfl rfl rfl (Sx.x_index (k := q) hT rfl Try.underlying56 Try.ti66 (H.row 0 rfl).sv rfl rfl (by first | rfl | omega) (by omega)) ?_
                  clear hT; intro a hT
                  refine Sx.st_take hT rfl rfl rfl rfl (Sx.x_fieldAddr hT rfl Try.fa66_1 rfl) ?_
                  clear hT; intro a hT
                  refine Sx.st_held hT rfl rfl rfl rfl hH (fun w' h' => Sx.x_load1 hT rfl Try.fl25 rfl (by first | exact (((Hu.heldR 0 rfl h' Sx.off_No).ssn rfl).cell (j := 4) Gr.len hg rfl) | exact (((Hu.heldR 0 rfl h' Sx.off_No).ssn rfl).cell (j := 0) Gr.len hg rfl) | exact (((Hu.heldR 0 rfl h' Sx.off_No).ssn rfl).cell (j := 0) Gr.len hg1 rfl) | exact ((fam_r (Hu.held 1 rfl h' Sx.off_No) hg).cell (j := 0) kc_len hkey2 rfl) | exact ((fam_r (Hu.held 1 rfl h' Sx.off_No) hg).cell (j := 0) kc_len hkey4 rfl))) ?_
                  clear hT; intro a hT
                  refine Sx.st_take hT rfl rfl rfl rfl (Sx.x_len_slice hT rfl rfl Try.underlying25 rfl) ?_
                  clear hT; intro a hT
                  refine Sx.st_take hT rfl rfl rfl rfl ((fun w => Sx.x_eq w hT rfl rfl rfl)) ?_
                  clear hT; intro a hT
                  refine Sx.st_take hT rfl rfl rfl rfl (Sx.x_move hT rfl rfl) ?_
                  clear hT; intro a hT
                  -- guard (27, 7)
                  refine Sx.Sl.two hT 106 rfl (fun hc61 hT => ?_) (fun hc61 hT => ?_)
                  · exfalso
                    try simp only [decide_eq_true_eq, decide_eq_false_iff_not, Bool.not_eq_true', Bool.not_eq_false', Bool.not_eq_true, Bool.not_eq_false, Bool.and_eq_true, Bool.or_eq_false_iff, beq_iff_eq, bne_iff_ne, Int.not_lt, Int.not_le, ne_eq] at hc61
                    exact hgn (List.eq_nil_of_length_eq_zero (by omega))
                  · try simp only [decide_eq_true_eq, decide_eq_false_iff_not, Bool.not_eq_true', Bool.not_eq_false', Bool.not_eq_true, Bool.not_eq_false, Bool.and_eq_true, Bool.or_eq_false_iff, beq_iff_eq, bne_iff_ne, Int.not_lt, Int.not_le, ne_eq] at hc61
                    refine Sx.st_take hT rfl rfl rfl rfl (Sx.x_move hT rfl rfl) ?_
                    clear hT; intro a hT
                    refine Sx.st_take hT rfl rfl rfl rfl ((fun w => Sx.x_gt w hT rfl rfl rfl)) ?_
                    clear hT; intro a hT
                    refine Sx.st_take hT rfl rfl rfl rfl (Sx.x_move hT rfl rfl) ?_
                    clear hT; intro a hT
                    -- guard (27, 10)
                    refine Sx.Sl.two hT 109 rfl (fun hc62 hT => ?_) (fun hc62 hT => ?_)
                    · try simp only [decide_eq_true_eq, decide_eq_false_iff_not, Bool.not_eq_true', Bool.not_eq_false', Bool.not_eq_true, Bool.not_eq_false, Bool.and_eq_true, Bool.or_eq_false_iff, beq_iff_eq, bne_iff_ne, Int.not_lt, Int.not_le, ne_eq] at hc62
                      obtain ⟨g1, hg1⟩ : ∃ o, L[q - 1]? = some o := ⟨_, List.getElem?_eq_getElem (by omega)⟩
                      have hri := spec_rise hDs hL (by omega) hg hg1
                      refine Sx.st_take hT rfl rfl rfl rfl (Sx.x_move hT rfl rfl) ?_
                      clear hT; intro a hT
                      refine Sx.st_take hT rfl rfl rfl rfl (Sx.x_move hT rfl rfl) ?_
                      clear hT; intro a hT
                      refine Sx.st_take hT rfl rfl rfl rfl (Sx.x_index (k := q) hT rfl Try.underlying56 Try.ti66 (H.row 0 rfl).sv rfl rfl (by first | rfl | omega) (by omega)) ?_
                      clear hT; intro a hT
                      refine Sx.st_take hT rfl rfl rfl rfl (Sx.x_fieldAddr hT rfl Try.fa66_0 rfl) ?_
                      clear hT; intro a hT
                      refine Sx.st_take hT rfl rfl rfl rfl (Sx.x_fieldAddr hT rfl Try.fa37_0 rfl) ?_
                      clear hT; intro a hT
                      refine Sx.st_held hT rfl rfl rfl rfl hH (fun w' h' => Sx.x_load1 hT rfl Try.fl3 rfl (by first | exact (((Hu.heldR 0 rfl h' Sx.off_No).ssn rfl).cell (j := 4) Gr.len hg rfl) | exact (((Hu.heldR 0 rfl h' Sx.off_No).ssn rfl).cell (j := 0) Gr.len hg rfl) | exact (((Hu.heldR 0 rfl h' Sx.off_No).ssn rfl).cell (j := 0) Gr.len hg1 rfl) | exact ((fam_r (Hu.held 1 rfl h' Sx.off_No) hg).cell (j := 0) kc_len hkey2 rfl) | exact ((fam_r (Hu.held 1 rfl h' Sx.off_No) hg).cell (j := 0) kc_len hkey4 rfl))) ?_
                      clear hT; intro a hT
                      refine Sx.st_take hT rfl rfl rfl rfl (Sx.x_move hT rfl rfl) ?_
                      clear hT; intro a hT
                      refine Sx.st_take hT rfl rfl rfl rfl (Sx.x_move hT rfl rfl) ?_
                      clear hT; intro a hT
                      refine Sx.st_take hT rfl rfl rfl rfl ((fun w => Sx.x_sub w hT rfl rfl rfl (Sx.wrap64 (by omega)))) ?_
                      clear hT; intro a hT
                      refine Sx.st_take hT rfl rfl rfl rfl (Sx.x_index (k := q - 1) hT rfl Try.underlying56 Try.ti66 (H.row 0 rfl).sv rfl rfl (by first | rfl | omega) (by omega)) ?_
                      clear hT; intro a hT
                      refine Sx.st_take hT rfl rfl rfl rfl (Sx.x_fieldAddr hT rfl Try.fa66_0 rfl) ?_
                      clear hT; intro a hT
                      refine Sx.st_take hT rfl rfl rfl rfl (Sx.x_fieldAddr hT rfl Try.fa37_0 rfl) ?_
                      clear hT; intro a hT
                      refine Sx.st_held hT rfl rfl rfl rfl hH (fun w' h' => Sx.x_load1 hT rfl Try.fl3 rfl (by first | exact (((Hu.heldR 0 rfl h' Sx.off_No).ssn rfl).cell (j := 4) Gr.len hg rfl) | exact (((Hu.heldR 0 rfl h' Sx.off_No).ssn rfl).cell (j := 0) Gr.len hg rfl) | exact (((Hu.heldR 0 rfl h' Sx.off_No).ssn rfl).cell (j := 0) Gr.len hg1 rfl) | exact ((fam_r (Hu.held 1 rfl h' Sx.off_No) hg).cell (j := 0) kc_len hkey2 rfl) | exact ((fam_r (Hu.held 1 rfl h' Sx.off_No) hg).cell (j := 0) kc_len hkey4 rfl))) ?_
                      clear hT; intro a hT
                      refine Sx.st_take hT rfl rfl rfl rfl ((fun w => Sx.x_le w hT rfl rfl rfl)) ?_
                      clear hT; intro a hT
                      refine Sx.st_take hT rfl rfl rfl rfl (Sx.x_pick_t hT rfl rfl rfl) ?_
                      clear hT; intro a hT
                      refine Sx.st_take hT rfl rfl rfl rfl (Sx.x_pick_f hT rfl rfl rfl) ?_
                      clear hT; intro a hT
                      replace hT := hT.keep [125, 96, 18, 17, 86, 84, 65, 14, 13, 12, 11, 52, 10, 9, 40, 8, 7, 32, 28, 0, 1, 2] rfl
                      clear Hu hH
                      refine Sx.ser_calm ?_
                      refine Sx.then_normal (hK60 _ _ ?_)
                      clear hK60
                      -- cond 8
                      refine Sx.wp_if hT rfl (fun hc63 => ?_) (fun hc63 => ?_)
                      · exfalso
                        try simp only [decide_eq_true_eq, decide_eq_false_iff_not, Bool.not_eq_true', Bool.not_eq_false', Bool.not_eq_true, Bool.not_eq_false, Bool.and_eq_true, Bool.or_eq_false_iff, beq_iff_eq, bne_iff_ne, Int.not_lt, Int.not_le, ne_eq] at hc63
                        first | (simp at hc63; done) | omega
                      · try simp only [decide_eq_true_eq, decide_eq_false_iff_not, Bool.not_eq_true', Bool.not_eq_false', Bool.not_eq_true, Bool.not_eq_false, Bool.and_eq_true, Bool.or_eq_false_iff, beq_iff_eq, bne_iff_ne, Int.not_lt, Int.not_le, ne_eq] at hc63
                        refine wp_skip ?_
                        exact Sx.then_normal (hJK41 () _ _ trivial (hT.keep [96, 18, 17, 86, 84, 65, 14, 13, 12, 11, 52, 10, 9, 40, 8, 7, 32, 28, 0, 1, 2] rfl) (H.keep [0, 1, 2, 3, 4] rfl rfl))
                    · try simp only [decide_eq_true_eq, decide_eq_false_iff_not, Bool.not_eq_true', Bool.not_eq_false', Bool.not_eq_true, Bool.not_eq_false, Bool.and_eq_true, Bool.or_eq_false_iff, beq_iff_eq, bne_iff_ne, Int.not_lt, Int.not_le, ne_eq] at hc62
                      refine Sx.st_skip hT rfl rfl rfl rfl ?_
                      clear hT; intro a hT
                      refine Sx.st_skip hT rfl rfl rfl rfl ?_
                      clear hT; intro a hT
                      refine Sx.st_skip hT rfl rfl rfl rfl ?_
                      clear hT; intro a hT
                      refine Sx.st_skip hT rfl rfl rfl rfl ?_
                      clear hT; intro a hT
                      refine Sx.st_skip hT rfl rfl rfl rfl ?_
                      clear hT; intro a hT
                      refine Sx.st_heldskip hT rfl rfl rfl rfl hH ?_
                      clear hT; intro a hT
                      refine Sx.st_skip hT rfl rfl rfl rfl ?_
                      clear hT; intro a hT
                      refine Sx.st_skip hT rfl rfl rfl rfl ?_
                      clear hT; intro a hT
                      refine Sx.st_skip hT rfl rfl rfl rfl ?_
                      clear hT; intro a hT
                      refine Sx.st_skip hT rfl rfl rfl rfl ?_
                      clear hT; intro a hT
                      refine Sx.st_skip hT rfl rfl rfl rfl ?_
                      clear hT; intro a hT
                      refine Sx.st_skip hT rfl rfl rfl rfl ?_
                      clear hT; intro a hT
                      refine Sx.st_heldskip hT rfl rfl rfl rfl hH ?_
                      clear hT; intro a hT
                      refine Sx.st_skip hT rfl rfl rfl rfl ?_
                      clear hT; intro a hT
                      refine Sx.st_take hT rfl rfl rfl rfl (Sx.x_pick_f hT rfl rfl rfl) ?_
                      clear hT; intro a hT
                      refine Sx.st_take hT rfl rfl rfl rfl (Sx.x_pick_f hT rfl rfl rfl) ?_
                      clear hT; intro a hT
                      replace hT := hT.keep [125, 96, 18, 17, 86, 84, 65, 14, 13, 12, 11, 52, 10, 9, 40, 8, 7, 32, 28, 0, 1, 2] rfl
                      clear Hu hH
                      refine Sx.ser_calm ?_
                      refine Sx.then_normal (hK60 _ _ ?_)
                      clear hK60
                      refine Sx.wp_if hT rfl (fun h => by cases h) (fun _ => ?_)
                      refine wp_skip ?_
                      exact Sx.then_normal (hJK41 () _ _ trivial (hT.keep [96, 18, 17, 86, 84, 65, 14, 13, 12, 11, 52, 10, 9, 40, 8, 7, 32, 28, 0, 1, 2] rfl) (H.keep [0, 1, 2, 3, 4] rfl rfl))
              · try simp only [decide_eq_true_eq, decide_eq_false_iff_not, Bool.not_eq_true', Bool.not_eq_false', Bool.not_eq_true, Bool.not_eq_false, Bool.and_eq_true, Bool.or_eq_false_iff, beq_iff_eq, bne_iff_ne, Int.not_lt, Int.not_le, ne_eq] at hc39
                have hqL : q = L.length := by omega
                rw [hqL, List.take_length, met_spec hL, met_sum hDs (err_iff.1 he0)] at hme
                refine wp_exit ?_
                refine Sx.then_exit ?_
                refine Sx.then_exit ?_
                refine Sx.block_exit ?_
                refine Sx.then_normal (hK35 _ _ ?_)
                clear hK35
                refine wp_seq_k fun K64 hK64 => ?_
                -- region 41 (law.go:204)
                refine Sx.wp_text [(0, .take)] rfl ?_
                refine Sx.st_take hT rfl rfl rfl rfl (Sx.x_assign hT rfl rfl) ?_
                clear hT; intro a hT
                replace hT := hT.keep [23, 96, 18, 17, 86, 84, 65, 14, 13, 12, 11, 52, 10, 9, 40, 8, 7, 32, 28, 0, 1, 2] rfl
                refine Sx.ser_nil ?_
                refine Sx.then_normal (hK64 _ _ ?_)
                clear hK64
                refine wp_seq_k fun K65 hK65 => ?_
                refine wp_seq_k fun K66 hK66 => ?_
                -- region 42 (law.go:205)
                refine Sx.wp_text [(0, .take)] rfl ?_
                refine Sx.st_take hT rfl rfl rfl rfl (Sx.x_assign hT rfl rfl) ?_
                clear hT; intro a hT
                replace hT := hT.keep [24, 23, 96, 18, 17, 86, 84, 65, 14, 13, 12, 11, 52, 10, 9, 40, 8, 7, 32, 28, 0, 1, 2] rfl
                refine Sx.ser_nil ?_
                refine Sx.then_normal (hK66 _ _ ?_)
                clear hK66
                refine wp_block ?_
                -- loop 4
                refine Sx.wp_loopH (G := Nat) (fun k => [(24, .int .i64 (k : Int)), (23, .int .i64 ((uniq (ks.take k)).length : Int))]) (fun k => []) (fun k => k ≤ ks.length) (fun k => ks.length - k) 0 (hT.keep [24, 23, 96, 18, 17, 86, 84, 65, 14, 13, 12, 11, 52, 10, 9, 40, 8, 7, 32, 28, 0, 1, 2] rfl) (H.keep [0, 1, 2, 3, 4] rfl rfl) (Nat.zero_le _) ?_
                clear hT H
                rintro k a w21 hJ hT H
                replace hT := hT.keep [24, 23, 96, 18, 17, 86, 84, 65, 14, 13, 12, 11, 52, 10, 9, 40, 8, 7, 32, 28, 0, 1, 2] rfl
                replace H := H.keep [0, 1, 2, 3, 4] rfl rfl
                have hk : k ≤ ks.length := hJ
                have hul : (uniq (ks.take k)).length ≤ k := Nat.le_trans (uniq_len _) (List.length_take_le _ _)
                refine wp_seq_k fun K67 hK67 => ?_
                refine wp_seq_k fun K68 hK68 => ?_
                -- region 43 (law.go:205)
                refine Sx.wp_text [(0, .take), (1, .take), (2, .take), (3, .take)] rfl ?_
                refine Sx.st_take hT rfl rfl rfl rfl (Sx.x_move hT rfl rfl) ?_
                clear hT; intro a hT
                refine Sx.st_take hT rfl rfl rfl rfl (Sx.x_move hT rfl rfl) ?_
                clear hT; intro a hT
                refine Sx.st_take hT rfl rfl rfl rfl (Sx.x_len_slice hT rfl rfl Try.underlying25 rfl) ?_
                clear hT; intro a hT
                refine Sx.st_take hT rfl rfl rfl rfl ((fun w => Sx.x_lt w hT rfl rfl rfl)) ?_
                clear hT; intro a hT
                replace hT := hT.keep [188, 24, 23, 96, 18, 17, 86, 84, 65, 14, 13, 12, 11, 52, 10, 9, 40, 8, 7, 32, 28, 0, 1, 2] rfl
                refine Sx.ser_nil ?_
                refine Sx.then_normal (hK68 _ _ ?_)
                clear hK68
                -- cond 13
                refine Sx.wp_if hT rfl (fun hc69 => ?_) (fun hc69 => ?_)
                · try simp only [decide_eq_true_eq, decide_eq_false_iff_not, Bool.not_eq_true', Bool.not_eq_false', Bool.not_eq_true, Bool.not_eq_false, Bool.and_eq_true, Bool.or_eq_false_iff, beq_iff_eq, bne_iff_ne, Int.not_lt, Int.not_le, ne_eq] at hc69
                  obtain ⟨key, hkey⟩ : ∃ o, ks[k]? = some o := ⟨_, List.getElem?_eq_getElem (by omega)⟩
                  refine wp_skip ?_
                  refine Sx.then_normal (hK67 _ _ ?_)
                  clear hK67
                  refine wp_seq_k fun K70 hK70 => ?_
                  refine wp_block ?_
                  refine wp_seq_k fun K71 hK71 => ?_
                  -- region 45 (law.go:206)
                  refine Sx.wp_text [(0, .take)] rfl ?_
                  refine Sx.st_take hT rfl rfl rfl rfl (Sx.x_assign hT rfl rfl) ?_
                  clear hT; intro a hT
                  replace hT := hT.keep [25, 188, 24, 23, 96, 18, 17, 86, 84, 65, 14, 13, 12, 11, 52, 10, 9, 40, 8, 7, 32, 28, 0, 1, 2] rfl
                  refine Sx.ser_nil ?_
                  refine Sx.then_normal (hK71 _ _ ?_)
                  clear hK71
                  refine wp_seq_k fun K72 hK72 => ?_
                  refine wp_seq_k fun K73 hK73 => ?_
                  -- region 46 (law.go:207)
                  refine Sx.wp_text [(0, .take)] rfl ?_
                  refine Sx.st_take hT rfl rfl rfl rfl (Sx.x_assign hT rfl rfl) ?_
                  clear hT; intro a hT
                  replace hT := hT.keep [26, 25, 188, 24, 23, 96, 18, 17, 86, 84, 65, 14, 13, 12, 11, 52, 10, 9, 40, 8, 7, 32, 28, 0, 1, 2] rfl
                  refine Sx.ser_nil ?_
                  refine Sx.then_normal (hK73 _ _ ?_)
                  clear hK73
                  refine wp_block ?_
                  -- loop 5
                  refine Sx.wp_loopH (G := Nat) (fun t => [(26, .int .i64 (t : Int)), (25, .bool (decide (key ∈ ks.take t)))]) (fun t => []) (fun t => t ≤ k) (fun t => k - t) 0 (hT.keep [26, 25, 188, 24, 23, 96, 18, 17, 86, 84, 65, 14, 13, 12, 11, 52, 10, 9, 40, 8, 7, 32, 28, 0, 1, 2] rfl) (H.keep [0, 1, 2, 3, 4] rfl rfl) (Nat.zero_le _) ?_
                  clear hT H
                  rintro t a w22 hJ hT H
                  replace hT := hT.keep [26, 25, 188, 24, 23, 96, 18, 17, 86, 84, 65, 14, 13, 12, 11, 52, 10, 9, 40, 8, 7, 32, 28, 0, 1, 2] rfl
                  replace H := H.keep [0, 1, 2, 3, 4] rfl rfl
                  have ht : t ≤ k := hJ
                  refine wp_seq_k fun K74 hK74 => ?_
                  refine wp_seq_k fun K75 hK75 => ?_
                  -- region 47 (law.go:207)
                  refine Sx.wp_text [(0, .take), (1, .take), (2, .take)] rfl ?_
                  refine Sx.st_take hT rfl rfl rfl rfl (Sx.x_move hT rfl rfl) ?_
                  clear hT; intro a hT
                  refine Sx.st_take hT rfl rfl rfl rfl (Sx.x_move hT rfl rfl) ?_
                  clear hT; intro a hT
                  refine Sx.st_take hT rfl rfl rfl rfl ((fun w => Sx.x_lt w hT rfl rfl rfl)) ?_
                  clear hT; intro a hT
                  replace hT := hT.keep [193, 26, 25, 188, 24, 23, 96, 18, 17, 86, 84, 65, 14, 13, 12, 11, 52, 10, 9, 40, 8, 7, 32, 28, 0, 1, 2] rfl
                  refine Sx.ser_nil ?_
                  refine Sx.then_normal (hK75 _ _ ?_)
                  clear hK75
                  -- cond 14
                  refine Sx.wp_if hT rfl (fun hc76 => ?_) (fun hc76 => ?_)
                  · try simp only [decide_eq_true_eq, decide_eq_false_iff_not, Bool.not_eq_true', Bool.not_eq_false', Bool.not_eq_true, Bool.not_eq_false, Bool.and_eq_true, Bool.or_eq_false_iff, beq_iff_eq, bne_iff_ne, Int.not_lt, Int.not_le, ne_eq] at hc76
                    obtain ⟨key3, hkey3⟩ : ∃ o, ks[t]? = some o := ⟨_, List.getElem?_eq_getElem (by omega)⟩
                    refine wp_skip ?_
                    refine Sx.then_normal (hK74 _ _ ?_)
                    clear hK74
                    refine wp_seq_k fun K77 hK77 => ?_
                    refine wp_block ?_
                    -- region 49 (law.go:208)
                    refine Sx.wp_draws (fun u => Sx.Ext (Sx.No) u) [(0, .take), (1, .take), (2, .take), (3, .take), (4, .take), (5, .held), (6, .take), (7, .take), (8, .take), (9, .held), (10, .take), (11, .take), (12, .take)] (by kernel_rfl) (by kernel_rfl) (fun u E _ => ?_)
                    replace H := H.pure E; clear E
                    have hH : Sx.Ext (Sx.No) u u := Sx.Ext.refl _ _
                    have Hu := H
                    refine Sx.st_take hT rfl rfl rfl rfl (Sx.x_move hT rfl rfl) ?_
                    clear hT; intro a hT
                    refine Sx.st_take hT rfl rfl rfl rfl (Sx.x_move hT rfl rfl) ?_
                    clear hT; intro a hT
                    -- guard (49, 1)
                    refine Sx.Sl.two hT 197 rfl (fun hc78 hT => ?_) (fun hc78 hT => ?_)
                    · try simp only [decide_eq_true_eq, decide_eq_false_iff_not, Bool.not_eq_true', Bool.not_eq_false', Bool.not_eq_true, Bool.not_eq_false, Bool.and_eq_true, Bool.or_eq_false_iff, beq_iff_eq, bne_iff_ne, Int.not_lt, Int.not_le, ne_eq] at hc78
                      refine Sx.st_skip hT rfl rfl rfl rfl ?_
                      clear hT; intro a hT
                      refine Sx.st_skip hT rfl rfl rfl rfl ?_
                      clear hT; intro a hT
                      refine Sx.st_skip hT rfl rfl rfl rfl ?_
                      clear hT; intro a hT
                      refine Sx.st_heldskip hT rfl rfl rfl rfl hH ?_
                      clear hT; intro a hT
                      refine Sx.st_skip hT rfl rfl rfl rfl ?_
                      clear hT; intro a hT
                      refine Sx.st_skip hT rfl rfl rfl rfl ?_
                      clear hT; intro a hT
                      refine Sx.st_skip hT rfl rfl rfl rfl ?_
                      clear hT; intro a hT
                      refine Sx.st_heldskip hT rfl rfl rfl rfl hH ?_
                      clear hT; intro a hT
                      refine Sx.st_skip hT rfl rfl rfl rfl ?_
                      clear hT; intro a hT
                      refine Sx.st_take hT rfl rfl rfl rfl (Sx.x_pick_t hT rfl rfl rfl) ?_
                      clear hT; intro a hT
                      refine Sx.st_take hT rfl rfl rfl rfl (Sx.x_assign hT rfl rfl) ?_
                      clear hT; intro a hT
                      replace hT := hT.keep [25, 193, 26, 188, 24, 23, 96, 18, 17, 86, 84, 65, 14, 13, 12, 11, 52, 10, 9, 40, 8, 7, 32, 28, 0, 1, 2] rfl
                      clear Hu hH
                      refine Sx.ser_calm ?_
                      refine Sx.block_normal ?_
                      refine Sx.then_normal (hK77 _ _ ?_)
                      clear hK77
                      -- region 48 (law.go:207)
                      refine Sx.wp_text [(0, .take), (1, .take), (2, .take)] rfl ?_
                      refine Sx.st_take hT rfl rfl rfl rfl (Sx.x_move hT rfl rfl) ?_
                      clear hT; intro a hT
                      refine Sx.st_take hT rfl rfl rfl rfl ((fun w => Sx.x_add w hT rfl rfl rfl (Sx.wrap64 (by omega)))) ?_
                      clear hT; intro a hT
                      refine Sx.st_take hT rfl rfl rfl rfl (Sx.x_assign hT rfl rfl) ?_
                      clear hT; intro a hT
                      replace hT := hT.keep [26, 25, 193, 188, 24, 23, 96, 18, 17, 86, 84, 65, 14, 13, 12, 11, 52, 10, 9, 40, 8, 7, 32, 28, 0, 1, 2] rfl
                      refine Sx.ser_nil ?_
                      refine Sx.then_normal ?_
                      exact ⟨t + 1, (by omega), ((hT.keep [26, 25, 188, 24, 23, 96, 18, 17, 86, 84, 65, 14, 13, 12, 11, 52, 10, 9, 40, 8, 7, 32, 28, 0, 1, 2] rfl).conv (by rw [mem_take hkey3]; simp_all)), (H.keep [0, 1, 2, 3, 4] rfl rfl), by omega⟩
                    · try simp only [decide_eq_true_eq, decide_eq_false_iff_not, Bool.not_eq_true', Bool.not_eq_false', Bool.not_eq_true, Bool.not_eq_false, Bool.and_eq_true, Bool.or_eq_false_iff, beq_iff_eq, bne_iff_ne, Int.not_lt, Int.not_le, ne_eq] at hc78
                      refine Sx.st_take hT rfl rfl rfl rfl (Sx.x_move hT rfl rfl) ?_
                      clear hT; intro a hT
                      refine Sx.st_take hT rfl rfl rfl rfl (Sx.x_move hT rfl rfl) ?_
                      clear hT; intro a hT
                      refine Sx.st_take hT rfl rfl rfl rfl (Sx.x_index (k := t) hT rfl Try.underlying25 Try.ti9 (R4.at H.ext).sv rfl rfl (by first | rfl | omega) (by omega)) ?_
                      clear hT; intro a hT
                      refine Sx.st_held hT rfl rfl rfl rfl hH (fun w' h' => Sx.x_load1 hT rfl Try.fl9 rfl (by first | exact ((R4.at (Hu.ext.step h')).cell (j := 0) kc_len hkey rfl) | exact ((R4.at (Hu.ext.step h')).cell (j := 0) kc_len hkey3 rfl))) ?_
                      clear hT; intro a hT
                      refine Sx.st_take hT rfl rfl rfl rfl (Sx.x_move hT rfl rfl) ?_
                      clear hT; intro a hT
                      refine Sx.st_take hT rfl rfl rfl rfl (Sx.x_move hT rfl rfl) ?_
                      clear hT; intro a hT
                      refine Sx.st_take hT rfl rfl rfl rfl (Sx.x_index (k := k) hT rfl Try.underlying25 Try.ti9 (R4.at H.ext).sv rfl rfl (by first | rfl | omega) (by omega)) ?_
                      clear hT; intro a hT
                      refine Sx.st_held hT rfl rfl rfl rfl hH (fun w' h' => Sx.x_load1 hT rfl Try.fl9 rfl (by first | exact ((R4.at (Hu.ext.step h')).cell (j := 0) kc_len hkey rfl) | exact ((R4.at (Hu.ext.step h')).cell (j := 0) kc_len hkey3 rfl))) ?_
                      clear hT; intro a hT
                      refine Sx.st_take hT rfl rfl rfl rfl ((fun w => Sx.x_streq w hT rfl rfl rfl)) ?_
                      clear hT; intro a hT
                      refine Sx.st_take hT rfl rfl rfl rfl (Sx.x_pick_f hT rfl rfl rfl) ?_
                      clear hT; intro a hT
                      refine Sx.st_take hT rfl rfl rfl rfl (Sx.x_assign hT rfl rfl) ?_
                      clear hT; intro a hT
                      replace hT := hT.keep [25, 193, 26, 188, 24, 23, 96, 18, 17, 86, 84, 65, 14, 13, 12, 11, 52, 10, 9, 40, 8, 7, 32, 28, 0, 1, 2] rfl
                      clear Hu hH
                      refine Sx.ser_calm ?_
                      refine Sx.block_normal ?_
                      refine Sx.then_normal (hK77 _ _ ?_)
                      clear hK77
                      -- region 48 (law.go:207)
                      refine Sx.wp_text [(0, .take), (1, .take), (2, .take)] rfl ?_
                      refine Sx.st_take hT rfl rfl rfl rfl (Sx.x_move hT rfl rfl) ?_
                      clear hT; intro a hT
                      refine Sx.st_take hT rfl rfl rfl rfl ((fun w => Sx.x_add w hT rfl rfl rfl (Sx.wrap64 (by omega)))) ?_
                      clear hT; intro a hT
                      refine Sx.st_take hT rfl rfl rfl rfl (Sx.x_assign hT rfl rfl) ?_
                      clear hT; intro a hT
                      replace hT := hT.keep [26, 25, 193, 188, 24, 23, 96, 18, 17, 86, 84, 65, 14, 13, 12, 11, 52, 10, 9, 40, 8, 7, 32, 28, 0, 1, 2] rfl
                      refine Sx.ser_nil ?_
                      refine Sx.then_normal ?_
                      exact ⟨t + 1, (by omega), ((hT.keep [26, 25, 188, 24, 23, 96, 18, 17, 86, 84, 65, 14, 13, 12, 11, 52, 10, 9, 40, 8, 7, 32, 28, 0, 1, 2] rfl).conv (by rw [mem_take hkey3]; simp_all)), (H.keep [0, 1, 2, 3, 4] rfl rfl), by omega⟩
                  · try simp only [decide_eq_true_eq, decide_eq_false_iff_not, Bool.not_eq_true', Bool.not_eq_false', Bool.not_eq_true, Bool.not_eq_false, Bool.and_eq_true, Bool.or_eq_false_iff, beq_iff_eq, bne_iff_ne, Int.not_lt, Int.not_le, ne_eq] at hc76
                    have htk : t = k := by omega
                    rw [htk] at hT
                    refine wp_exit ?_
                    refine Sx.then_exit ?_
                    refine Sx.then_exit ?_
                    refine Sx.block_exit ?_
                    refine Sx.then_normal (hK72 _ _ ?_)
                    clear hK72
                    refine wp_seq_k fun K79 hK79 => ?_
                    -- region 50 (law.go:210)
                    refine Sx.wp_text [(0, .take), (1, .take)] rfl ?_
                    refine Sx.st_take hT rfl rfl rfl rfl (Sx.x_move hT rfl rfl) ?_
                    clear hT; intro a hT
                    refine Sx.st_take hT rfl rfl rfl rfl (Sx.x_not hT rfl rfl) ?_
                    clear hT; intro a hT
                    replace hT := hT.keep [209, 193, 26, 25, 188, 24, 23, 96, 18, 17, 86, 84, 65, 14, 13, 12, 11, 52, 10, 9, 40, 8, 7, 32, 28, 0, 1, 2] rfl
                    refine Sx.ser_nil ?_
                    refine Sx.then_normal (hK79 _ _ ?_)
                    clear hK79
                    -- cond 15
                    refine Sx.wp_if hT rfl (fun hc80 => ?_) (fun hc80 => ?_)
                    · try simp only [decide_eq_true_eq, decide_eq_false_iff_not, Bool.not_eq_true', Bool.not_eq_false', Bool.not_eq_true, Bool.not_eq_false, Bool.and_eq_true, Bool.or_eq_false_iff, beq_iff_eq, bne_iff_ne, Int.not_lt, Int.not_le, ne_eq] at hc80
                      have hnd9 : key ∉ ks.take k := hc80
                      -- region 51 (law.go:211)
                      refine Sx.wp_text [(0, .take), (1, .take), (2, .take)] rfl ?_
                      refine Sx.st_take hT rfl rfl rfl rfl (Sx.x_move hT rfl rfl) ?_
                      clear hT; intro a hT
                      refine Sx.st_take hT rfl rfl rfl rfl ((fun w => Sx.x_add w hT rfl rfl rfl (Sx.wrap64 (by omega)))) ?_
                      clear hT; intro a hT
                      refine Sx.st_take hT rfl rfl rfl rfl (Sx.x_assign hT rfl rfl) ?_
                      clear hT; intro a hT
                      replace hT := hT.keep [23, 209, 193, 26, 25, 188, 24, 96, 18, 17, 86, 84, 65, 14, 13, 12, 11, 52, 10, 9, 40, 8, 7, 32, 28, 0, 1, 2] rfl
                      refine Sx.ser_nil ?_
                      refine Sx.block_normal ?_
                      refine Sx.then_normal (hK70 _ _ ?_)
                      clear hK70
                      -- region 44 (law.go:205)
                      refine Sx.wp_text [(0, .take), (1, .take), (2, .take)] rfl ?_
                      refine Sx.st_take hT rfl rfl rfl rfl (Sx.x_move hT rfl rfl) ?_
                      clear hT; intro a hT
                      refine Sx.st_take hT rfl rfl rfl rfl ((fun w => Sx.x_add w hT rfl rfl rfl (Sx.wrap64 (by omega)))) ?_
                      clear hT; intro a hT
                      refine Sx.st_take hT rfl rfl rfl rfl (Sx.x_assign hT rfl rfl) ?_
                      clear hT; intro a hT
                      replace hT := hT.keep [24, 23, 209, 193, 26, 25, 188, 96, 18, 17, 86, 84, 65, 14, 13, 12, 11, 52, 10, 9, 40, 8, 7, 32, 28, 0, 1, 2] rfl
                      refine Sx.ser_nil ?_
                      refine Sx.then_normal ?_
                      exact ⟨k + 1, (by omega), ((hT.keep [24, 23, 96, 18, 17, 86, 84, 65, 14, 13, 12, 11, 52, 10, 9, 40, 8, 7, 32, 28, 0, 1, 2] rfl).conv (by rw [take_app hkey, uniq_app]; unfold u1; rw [if_neg (fun h9 => hnd9 (uniq_mem.1 h9)), List.length_append]; rfl)), (H.keep [0, 1, 2, 3, 4] rfl rfl), by omega⟩
                    · try simp only [decide_eq_true_eq, decide_eq_false_iff_not, Bool.not_eq_true', Bool.not_eq_false', Bool.not_eq_true, Bool.not_eq_false, Bool.and_eq_true, Bool.or_eq_false_iff, beq_iff_eq, bne_iff_ne, Int.not_lt, Int.not_le, ne_eq] at hc80
                      have hnd9 : key ∈ ks.take k := hc80
                      refine wp_skip ?_
                      refine Sx.block_normal ?_
                      refine Sx.then_normal (hK70 _ _ ?_)
                      clear hK70
                      -- region 44 (law.go:205)
                      refine Sx.wp_text [(0, .take), (1, .take), (2, .take)] rfl ?_
                      refine Sx.st_take hT rfl rfl rfl rfl (Sx.x_move hT rfl rfl) ?_
                      clear hT; intro a hT
                      refine Sx.st_take hT rfl rfl rfl rfl ((fun w => Sx.x_add w hT rfl rfl rfl (Sx.wrap64 (by omega)))) ?_
                      clear hT; intro a hT
                      refine Sx.st_take hT rfl rfl rfl rfl (Sx.x_assign hT rfl rfl) ?_
                      clear hT; intro a hT
                      replace hT := hT.keep [24, 209, 193, 26, 25, 188, 23, 96, 18, 17, 86, 84, 65, 14, 13, 12, 11, 52, 10, 9, 40, 8, 7, 32, 28, 0, 1, 2] rfl
                      refine Sx.ser_nil ?_
                      refine Sx.then_normal ?_
                      exact ⟨k + 1, (by omega), ((hT.keep [24, 23, 96, 18, 17, 86, 84, 65, 14, 13, 12, 11, 52, 10, 9, 40, 8, 7, 32, 28, 0, 1, 2] rfl).conv (by rw [take_app hkey, uniq_app]; unfold u1; rw [if_pos (uniq_mem.2 hnd9)]; rfl)), (H.keep [0, 1, 2, 3, 4] rfl rfl), by omega⟩
                · try simp only [decide_eq_true_eq, decide_eq_false_iff_not, Bool.not_eq_true', Bool.not_eq_false', Bool.not_eq_true, Bool.not_eq_false, Bool.and_eq_true, Bool.or_eq_false_iff, beq_iff_eq, bne_iff_ne, Int.not_lt, Int.not_le, ne_eq] at hc69
                  have hkq2 : k = ks.length := by omega
                  rw [hkq2, List.take_length] at hT
                  refine wp_exit ?_
                  refine Sx.then_exit ?_
                  refine Sx.then_exit ?_
                  refine Sx.block_exit ?_
                  refine Sx.then_normal (hK65 _ _ ?_)
                  clear hK65
                  refine wp_seq_k fun K81 hK81 => ?_
                  -- region 52 (law.go:214)
                  refine Sx.wp_text [(0, .run), (1, .take), (2, .take), (3, .take), (4, .take), (5, .take), (6, .take)] rfl ?_
                  refine Sx.st_call hT rfl rfl rfl rfl rfl Try.can7 rfl (first_calls _) ?_
                  rintro _ w23 ⟨rfl, E⟩
                  refine ⟨_, rfl, ?_⟩
                  clear hT; intro a hT
                  replace H := H.pure E; clear E
                  refine Sx.st_take hT rfl rfl rfl rfl (Sx.x_move hT rfl rfl) ?_
                  clear hT; intro a hT
                  refine Sx.st_take hT rfl rfl rfl rfl (Sx.x_move hT rfl rfl) ?_
                  clear hT; intro a hT
                  refine Sx.st_take hT rfl rfl rfl rfl (Sx.x_move hT rfl rfl) ?_
                  clear hT; intro a hT
                  refine Sx.st_take hT rfl rfl rfl rfl ((fun w => Sx.x_eq w hT rfl rfl rfl)) ?_
                  clear hT; intro a hT
                  refine Sx.st_take hT rfl rfl rfl rfl (Sx.x_pick_t hT rfl rfl rfl) ?_
                  clear hT; intro a hT
                  refine Sx.st_take hT rfl rfl rfl rfl (Sx.x_assign hT rfl rfl) ?_
                  clear hT; intro a hT
                  replace hT := hT.keep [6, 188, 24, 23, 96, 18, 17, 86, 84, 65, 14, 13, 12, 11, 52, 10, 9, 40, 8, 7, 32, 28, 0, 1, 2] rfl
                  refine Sx.ser_nil ?_
                  refine Sx.then_normal (hK81 _ _ ?_)
                  clear hK81
                  refine wp_ret ?_
                  refine Sx.done1 (fn := Try.f6) hT rfl (.tmp (hT.get 6 _ rfl)) ?_
                  exact ⟨ret_b (by rw [hme]; simp), H.ext⟩

theorem Groups_no (n : Int) (hn : n < 1 ∨ 12 < n) {ad : Option Addr} {c : Nat} (l : List Rg) {ad4 : Option Addr} {c4 : Nat} (ks : List (List UInt8)) {w : World} (hs4 : Ss w ad4 kc 1 ks) (hks : ks.length ≤ 9223372036854775806) (hkb : ∀ l ∈ ks, l.length ≤ 140737488351232) : Calls Try.prog 6 #[.int .i64 n, .slice ad l.length c, .slice ad4 ks.length c4] w fun e w' => e = .returned (.bool true) ∧ Ext No w w' := by
  have R4 : Ro w No _ := Ro.of fun w' x => hs4.ext_no x
  refine Sx.calls_into Try.func6 rfl Try.ntmps6 rfl fun a hT => ?_
  replace hT := hT.keep [0, 1, 2] rfl
  have H : Sx.Hp w (Sx.No) w [] := Sx.Hp.start _ _
  refine wp_seq_k fun K1 hK1 => ?_
  -- region 0 (law.go:158)
  refine Sx.wp_text [(0, .take)] rfl ?_
  refine Sx.st_take hT rfl rfl rfl rfl (Sx.x_assign hT rfl rfl) ?_
  clear hT; intro a hT
  replace hT := hT.keep [6, 0, 1, 2] rfl
  refine Sx.ser_nil ?_
  refine Sx.then_normal (hK1 _ _ ?_)
  clear hK1
  refine wp_seq_k fun K2 hK2 => ?_
  refine wp_seq_k fun K3 hK3 => ?_
  -- region 1 (law.go:159)
  refine Sx.wp_text [(0, .run), (1, .take)] rfl ?_
  refine Sx.st_call hT rfl rfl rfl rfl rfl Try.can7 rfl (first_calls _) ?_
  rintro _ w1 ⟨rfl, E⟩
  refine ⟨_, rfl, ?_⟩
  clear hT; intro a hT
  replace H := H.pure E; clear E
  refine Sx.st_take hT rfl rfl rfl rfl (Sx.x_not hT rfl rfl) ?_
  clear hT; intro a hT
  replace hT := hT.keep [28, 6, 0, 1, 2] rfl
  refine Sx.ser_nil ?_
  refine Sx.then_normal (hK3 _ _ ?_)
  clear hK3
  refine Sx.wp_if hT rfl (fun h => by cases h) (fun _ => ?_)
  refine wp_skip ?_
  refine Sx.then_normal (hK2 _ _ ?_)
  clear hK2
  refine wp_seq_k fun K4 hK4 => ?_
  refine wp_seq_k fun K5 hK5 => ?_
  -- region 3 (law.go:162)
  refine Sx.wp_text [(0, .take), (1, .take), (2, .run), (3, .take)] rfl ?_
  refine Sx.st_take hT rfl rfl rfl rfl (Sx.x_move hT rfl rfl) ?_
  clear hT; intro a hT
  refine Sx.st_take hT rfl rfl rfl rfl (Sx.x_move hT rfl rfl) ?_
  clear hT; intro a hT
  refine Sx.st_call hT rfl rfl rfl rfl rfl Try.can8 rfl (fewX_calls ks (R4.at H.ext) hks hkb) ?_
  rintro _ w2 ⟨rfl, E⟩
  refine ⟨_, rfl, ?_⟩
  clear hT; intro a hT
  replace H := H.pure E; clear E
  refine Sx.st_take hT rfl rfl rfl rfl (Sx.x_not hT rfl rfl) ?_
  clear hT; intro a hT
  replace hT := hT.keep [32, 28, 6, 0, 1, 2] rfl
  refine Sx.ser_nil ?_
  refine Sx.then_normal (hK5 _ _ ?_)
  clear hK5
  -- cond 1
  refine Sx.wp_if hT rfl (fun hc6 => ?_) (fun hc6 => ?_)
  · try simp only [decide_eq_true_eq, decide_eq_false_iff_not, Bool.not_eq_true', Bool.not_eq_false', Bool.not_eq_true, Bool.not_eq_false, Bool.and_eq_true, Bool.or_eq_false_iff, beq_iff_eq, bne_iff_ne, Int.not_lt, Int.not_le, ne_eq] at hc6
    refine wp_seq_k fun K7 hK7 => ?_
    -- region 4 (law.go:163)
    refine Sx.wp_text [(0, .run), (1, .take)] rfl ?_
    refine Sx.st_call hT rfl rfl rfl rfl rfl Try.can7 rfl (first_calls _) ?_
    rintro _ w3 ⟨rfl, E⟩
    refine ⟨_, rfl, ?_⟩
    clear hT; intro a hT
    replace H := H.pure E; clear E
    refine Sx.st_take hT rfl rfl rfl rfl (Sx.x_assign hT rfl rfl) ?_
    clear hT; intro a hT
    replace hT := hT.keep [6, 32, 28, 0, 1, 2] rfl
    refine Sx.ser_nil ?_
    refine Sx.then_normal (hK7 _ _ ?_)
    clear hK7
    refine wp_ret ?_
    refine Sx.then_ret ?_
    refine Sx.done1 (fn := Try.f6) hT rfl (.tmp (hT.get 6 _ rfl)) ?_
    exact ⟨rfl, H.ext⟩
  · try simp only [decide_eq_true_eq, decide_eq_false_iff_not, Bool.not_eq_true', Bool.not_eq_false', Bool.not_eq_true, Bool.not_eq_false, Bool.and_eq_true, Bool.or_eq_false_iff, beq_iff_eq, bne_iff_ne, Int.not_lt, Int.not_le, ne_eq] at hc6
    refine wp_skip ?_
    refine Sx.then_normal (hK4 _ _ ?_)
    clear hK4
    refine wp_seq_k fun K8 hK8 => ?_
    -- region 5 (law.go:165)
    refine Sx.wp_text [(0, .take), (1, .run), (2, .take), (3, .take), (4, .take), (5, .take), (6, .take)] rfl ?_
    refine Sx.st_take hT rfl rfl rfl rfl (Sx.x_move hT rfl rfl) ?_
    clear hT; intro a hT
    refine Sx.st_call hT rfl rfl rfl rfl rfl Try.can9 rfl (Even_no n hn _) ?_
    rintro _ w4 ⟨rfl, E⟩
    refine ⟨_, rfl, ?_⟩
    clear hT; intro a hT
    replace H := H.pure E; clear E
    refine Sx.st_take hT rfl rfl rfl rfl (Sx.x_move hT rfl rfl) ?_
    clear hT; intro a hT
    refine Sx.st_take hT rfl rfl rfl rfl (Sx.x_extractL hT rfl rfl rfl) ?_
    clear hT; intro a hT
    refine Sx.st_take hT rfl rfl rfl rfl (Sx.x_extractL hT rfl rfl rfl) ?_
    clear hT; intro a hT
    refine Sx.st_take hT rfl rfl rfl rfl (Sx.x_assign hT rfl rfl) ?_
    clear hT; intro a hT
    refine Sx.st_take hT rfl rfl rfl rfl (Sx.x_assign hT rfl rfl) ?_
    clear hT; intro a hT
    replace hT := hT.keep [8, 7, 32, 28, 6, 0, 1, 2] rfl
    refine Sx.ser_nil ?_
    refine Sx.then_normal (hK8 _ _ ?_)
    clear hK8
    refine wp_seq_k fun K9 hK9 => ?_
    refine wp_seq_k fun K10 hK10 => ?_
    -- region 6 (law.go:166)
    refine Sx.wp_text [(0, .take), (1, .take)] rfl ?_
    refine Sx.st_take hT rfl rfl rfl rfl (Sx.x_move hT rfl rfl) ?_
    clear hT; intro a hT
    refine Sx.st_take hT rfl rfl rfl rfl ((fun w => Sx.x_ne w hT rfl rfl rfl)) ?_
    clear hT; intro a hT
    replace hT := hT.keep [40, 8, 7, 32, 28, 6, 0, 1, 2] rfl
    refine Sx.ser_nil ?_
    refine Sx.then_normal (hK10 _ _ ?_)
    clear hK10
    -- cond 2
    refine Sx.wp_if hT rfl (fun hc11 => ?_) (fun hc11 => ?_)
    · try simp only [decide_eq_true_eq, decide_eq_false_iff_not, Bool.not_eq_true', Bool.not_eq_false', Bool.not_eq_true, Bool.not_eq_false, Bool.and_eq_true, Bool.or_eq_false_iff, beq_iff_eq, bne_iff_ne, Int.not_lt, Int.not_le, ne_eq] at hc11
      refine wp_seq_k fun K12 hK12 => ?_
      -- region 7 (law.go:167)
      refine Sx.wp_text [(0, .run), (1, .take)] rfl ?_
      refine Sx.st_call hT rfl rfl rfl rfl rfl Try.can7 rfl (first_calls _) ?_
      rintro _ w5 ⟨rfl, E⟩
      refine ⟨_, rfl, ?_⟩
      clear hT; intro a hT
      replace H := H.pure E; clear E
      refine Sx.st_take hT rfl rfl rfl rfl (Sx.x_assign hT rfl rfl) ?_
      clear hT; intro a hT
      replace hT := hT.keep [6, 40, 8, 7, 32, 28, 0, 1, 2] rfl
      refine Sx.ser_nil ?_
      refine Sx.then_normal (hK12 _ _ ?_)
      clear hK12
      refine wp_ret ?_
      refine Sx.then_ret ?_
      refine Sx.done1 (fn := Try.f6) hT rfl (.tmp (hT.get 6 _ rfl)) ?_
      exact ⟨rfl, H.ext⟩
    · exfalso
      try simp only [decide_eq_true_eq, decide_eq_false_iff_not, Bool.not_eq_true', Bool.not_eq_false', Bool.not_eq_true, Bool.not_eq_false, Bool.and_eq_true, Bool.or_eq_false_iff, beq_iff_eq, bne_iff_ne, Int.not_lt, Int.not_le, ne_eq] at hc11
      simp at hc11

end Go.Proofs.Ytakohabmcgponaa
