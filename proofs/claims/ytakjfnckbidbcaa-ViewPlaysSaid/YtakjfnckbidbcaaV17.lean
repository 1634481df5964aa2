/- Walks: ViewPlays. -/
import Derived.Test.YtakjfnckbidbcaaV16
set_option linter.unusedSimpArgs false
set_option linter.unusedVariables false
namespace Go.Proofs.Ytakjfnckbidbcaa
open Sx
theorem Try.ti37 : Sx.TI Try.prog 37 (.agg #[.int .i64 0, .slice none 0 0, .int .i64 0, .int .i64 0, .int .i64 0]) 5 56 := .mk' (by kernel_rfl)
theorem Try.bld37 : Sx.Bld Try.prog 37 #[.int .i64 0, .slice none 0 0, .int .i64 0, .int .i64 0, .int .i64 0] #[(0, 1), (1, 1), (2, 3)] := ⟨_, _, _, _, Try.ti37, rfl, Try.underlying37, fun w => by simp [Sx.placesOf, Sx.run_sizeOf Try.ti3, Sx.run_sizeOf Try.ti33, Sx.run_sizeOf Try.ti35]⟩
theorem Try.can3 : Sx.Can Try.prog 3 := ⟨_, Try.func3, by kernel_rfl, rfl⟩
def spW : Wt := ⟨[115, 112, 111, 105, 108, 116], vz⟩
def spG : G6 := g6new [115, 112, 111, 105, 108, 116]

set_option maxHeartbeats 4000000 in
theorem Plays_all (cut : Int) {ad : Option Addr} {c : Nat} (l : List En) (nm : Key) {w : World} (hs : Ss w ad En.cells 7 l) (hw : ∀ x ∈ l, Ss w x.ad Wt.cells 4 x.ws ∧ (∀ y ∈ x.ws, y.wf) ∧ x.ws.length ≤ 9223372036854775806) (hl : l.length ≤ 9223372036854775806) (hnm : nm.length ≤ 140737488351232) : Calls Try.prog 3 #[.int .i64 cut, .slice ad l.length c, .string ⟨nm.toArray⟩] w fun e w' => e = .returned (.bool true) ∧ Ext No w w' := by
  have R : Ro w No _ := Ro.of fun w' x => hs.ext_no x
  have RM : Ro w No (fun u => ∀ x ∈ l, Ss u x.ad Wt.cells 4 x.ws) := Ro.of fun w' x y hy => ((hw y hy).1).ext_no x
  refine Sx.calls_into Try.func3 rfl Try.ntmps3 rfl fun a hT => ?_
  replace hT := hT.keep [0, 1, 2] rfl
  have H : Sx.Hp w (Sx.No) w [] := Sx.Hp.start _ _
  refine wp_seq_k fun K1 hK1 => ?_
  -- region 0 (law.go:66)
  refine Sx.wp_text [(0, .take)] rfl ?_
  refine Sx.st_take hT rfl rfl rfl rfl (Sx.x_assign hT rfl rfl) ?_
  clear hT; intro a hT
  replace hT := hT.keep [6, 0, 1, 2] rfl
  refine Sx.ser_nil ?_
  refine Sx.then_normal (hK1 _ _ ?_)
  clear hK1
  refine wp_seq_k fun K2 hK2 => ?_
  refine wp_seq_k fun K3 hK3 => ?_
  -- region 1 (law.go:67)
  refine Sx.wp_text [(0, .run), (1, .take)] rfl ?_
  refine Sx.st_call hT rfl rfl rfl rfl rfl Try.can7 rfl (first_calls _) ?_
  rintro _ w1 ⟨rfl, E⟩
  refine ⟨_, rfl, ?_⟩
  clear hT; intro a hT
  replace H := H.pure E; clear E
  refine Sx.st_take hT rfl rfl rfl rfl (Sx.x_not hT rfl rfl) ?_
  clear hT; intro a hT
  replace hT := hT.keep [25, 6, 0, 1, 2] rfl
  refine Sx.ser_nil ?_
  refine Sx.then_normal (hK3 _ _ ?_)
  clear hK3
  refine Sx.wp_if hT rfl (fun h => by cases h) (fun _ => ?_)
  refine wp_skip ?_
  refine Sx.then_normal (hK2 _ _ ?_)
  clear hK2
  refine wp_seq_k fun K4 hK4 => ?_
  by_cases hcu : 1 ≤ cut ∧ cut ≤ 24
  · skip
    obtain ⟨m, rfl⟩ : ∃ m : Nat, cut = (m : Int) := ⟨cut.toNat, by omega⟩
    have hm1 : 1 ≤ m := by omega
    have hm2 : m ≤ 24 := by omega
    -- region 3 (law.go:70)
    refine Sx.wp_text [(0, .take), (1, .run), (2, .take), (3, .take), (4, .take), (5, .take), (6, .take)] rfl ?_
    refine Sx.st_take hT rfl rfl rfl rfl (Sx.x_move hT rfl rfl) ?_
    clear hT; intro a hT
    refine Sx.st_call hT rfl rfl rfl rfl rfl Try.can8 rfl (New_yes (m : Int) (by omega) _) ?_
    rintro _ w2 ⟨p, b, rfl, K⟩
    refine ⟨_, rfl, ?_⟩
    clear hT; intro a hT
    replace H := H.more K rfl; clear K
    refine Sx.st_take hT rfl rfl rfl rfl (Sx.x_move hT rfl rfl) ?_
    clear hT; intro a hT
    refine Sx.st_take hT rfl rfl rfl rfl (Sx.x_extractL hT rfl rfl rfl) ?_
    clear hT; intro a hT
    refine Sx.st_take hT rfl rfl rfl rfl (Sx.x_extractL hT rfl rfl rfl) ?_
    clear hT; intro a hT
    refine Sx.st_take hT rfl rfl rfl rfl (Sx.x_assign hT rfl rfl) ?_
    clear hT; intro a hT
    refine Sx.st_take hT rfl rfl rfl rfl (Sx.x_assign hT rfl rfl) ?_
    clear hT; intro a hT
    replace hT := hT.keep [8, 7, 25, 6, 0, 1, 2] rfl
    refine Sx.ser_nil ?_
    refine Sx.then_normal (hK4 _ _ ?_)
    clear hK4
    refine wp_seq_k fun K5 hK5 => ?_
    -- region 4 (law.go:71)
    refine Sx.wp_text [(0, .take), (1, .run), (2, .take), (3, .take), (4, .take), (5, .take), (6, .take)] rfl ?_
    refine Sx.st_take hT rfl rfl rfl rfl (Sx.x_move hT rfl rfl) ?_
    clear hT; intro a hT
    refine Sx.st_call hT rfl rfl rfl rfl rfl Try.can9 rfl (xOf_calls [] (Ss.nil _ Wt.cells 4) (m : Int) (by decide) (by simp)) ?_
    rintro _ w3 ⟨ad8, c8, rfl, K⟩
    refine ⟨_, rfl, ?_⟩
    clear hT; intro a hT
    replace H := H.more K rfl; clear K
    rw [ofE_nil, if_neg (by omega)] at hT
    refine Sx.st_take hT rfl rfl rfl rfl (Sx.x_move hT rfl rfl) ?_
    clear hT; intro a hT
    refine Sx.st_take hT rfl rfl rfl rfl (Sx.x_extractL hT rfl rfl rfl) ?_
    clear hT; intro a hT
    refine Sx.st_take hT rfl rfl rfl rfl (Sx.x_extractL hT rfl rfl rfl) ?_
    clear hT; intro a hT
    refine Sx.st_take hT rfl rfl rfl rfl (Sx.x_assign hT rfl rfl) ?_
    clear hT; intro a hT
    refine Sx.st_take hT rfl rfl rfl rfl (Sx.x_assign hT rfl rfl) ?_
    clear hT; intro a hT
    replace hT := hT.keep [10, 8, 7, 25, 6, 0, 1, 2] rfl
    refine Sx.ser_nil ?_
    refine Sx.then_normal (hK5 _ _ ?_)
    clear hK5
    refine wp_seq_k fun K6 hK6 => ?_
    refine wp_seq_k fun K7 hK7 => ?_
    -- region 5 (law.go:72)
    refine Sx.wp_text [(0, .take), (1, .take), (2, .take), (3, .take), (4, .take), (5, .take), (6, .take), (7, .take), (8, .take), (9, .take)] rfl ?_
    refine Sx.st_take hT rfl rfl rfl rfl (Sx.x_move hT rfl rfl) ?_
    clear hT; intro a hT
    refine Sx.st_take hT rfl rfl rfl rfl (Sx.x_move hT rfl rfl) ?_
    clear hT; intro a hT
    refine Sx.st_take hT rfl rfl rfl rfl ((fun w => Sx.x_ne w hT rfl rfl rfl)) ?_
    clear hT; intro a hT
    refine Sx.st_take hT rfl rfl rfl rfl (Sx.x_move hT rfl rfl) ?_
    clear hT; intro a hT
    -- guard (5, 3)
    refine Sx.Sl.two hT 39 rfl (fun hc8 hT => ?_) (fun hc8 hT => ?_)
    · exfalso
      try simp only [decide_eq_true_eq, decide_eq_false_iff_not, Bool.not_eq_true', Bool.not_eq_false', Bool.not_eq_true, Bool.not_eq_false, Bool.and_eq_true, Bool.or_eq_false_iff, beq_iff_eq, bne_iff_ne, Int.not_lt, Int.not_le, ne_eq] at hc8
      simp at hc8
    · try simp only [decide_eq_true_eq, decide_eq_false_iff_not, Bool.not_eq_true', Bool.not_eq_false', Bool.not_eq_true, Bool.not_eq_false, Bool.and_eq_true, Bool.or_eq_false_iff, beq_iff_eq, bne_iff_ne, Int.not_lt, Int.not_le, ne_eq] at hc8
      refine Sx.st_take hT rfl rfl rfl rfl (Sx.x_move hT rfl rfl) ?_
      clear hT; intro a hT
      refine Sx.st_take hT rfl rfl rfl rfl (Sx.x_eqnil_some hT rfl Try.underlying24 rfl rfl) ?_
      clear hT; intro a hT
      refine Sx.st_take hT rfl rfl rfl rfl (Sx.x_move hT rfl rfl) ?_
      clear hT; intro a hT
      refine Sx.st_take hT rfl rfl rfl rfl ((fun w => Sx.x_ne w hT rfl rfl rfl)) ?_
      clear hT; intro a hT
      refine Sx.st_take hT rfl rfl rfl rfl (Sx.x_neb hT rfl Try.underlying4 rfl rfl) ?_
      clear hT; intro a hT
      refine Sx.st_take hT rfl rfl rfl rfl (Sx.x_pick_f hT rfl rfl rfl) ?_
      clear hT; intro a hT
      replace hT := hT.keep [45, 10, 8, 7, 25, 6, 0, 1, 2] rfl
      refine Sx.ser_nil ?_
      refine Sx.then_normal (hK7 _ _ ?_)
      clear hK7
      -- cond 1
      refine Sx.wp_if hT rfl (fun hc9 => ?_) (fun hc9 => ?_)
      · exfalso
        try simp only [decide_eq_true_eq, decide_eq_false_iff_not, Bool.not_eq_true', Bool.not_eq_false', Bool.not_eq_true, Bool.not_eq_false, Bool.and_eq_true, Bool.or_eq_false_iff, beq_iff_eq, bne_iff_ne, Int.not_lt, Int.not_le, ne_eq] at hc9
        simp at hc9
      · try simp only [decide_eq_true_eq, decide_eq_false_iff_not, Bool.not_eq_true', Bool.not_eq_false', Bool.not_eq_true, Bool.not_eq_false, Bool.and_eq_true, Bool.or_eq_false_iff, beq_iff_eq, bne_iff_ne, Int.not_lt, Int.not_le, ne_eq] at hc9
        refine wp_skip ?_
        refine Sx.then_normal (hK6 _ _ ?_)
        clear hK6
        refine wp_seq_k fun K10 hK10 => ?_
        refine wp_seq_k fun K11 hK11 => ?_
        -- region 7 (law.go:75)
        refine Sx.wp_text [(0, .take), (1, .take), (2, .take), (3, .take), (4, .run), (5, .take), (6, .take), (7, .take), (8, .take), (9, .take), (10, .take), (11, .take)] rfl ?_
        refine Sx.st_take hT rfl rfl rfl rfl (Sx.x_move hT rfl rfl) ?_
        clear hT; intro a hT
        refine Sx.st_take hT rfl rfl rfl rfl (Sx.x_eqnil_some hT rfl Try.underlying24 rfl rfl) ?_
        clear hT; intro a hT
        refine Sx.st_take hT rfl rfl rfl rfl (Sx.x_move hT rfl rfl) ?_
        clear hT; intro a hT
        refine Sx.st_take hT rfl rfl rfl rfl (Sx.x_move hT rfl rfl) ?_
        clear hT; intro a hT
        refine Sx.st_call hT rfl rfl rfl rfl rfl Try.can10 rfl (few_calls l (R.at H.ext) (fun x hx => ⟨(RM.at H.ext) x hx, (hw x hx).2⟩) hl) ?_
        rintro _ w4 ⟨b9, rfl, hb9, E⟩
        refine ⟨_, rfl, ?_⟩
        clear hT; intro a hT
        replace H := H.pure E; clear E
        refine Sx.st_take hT rfl rfl rfl rfl (Sx.x_not hT rfl rfl) ?_
        clear hT; intro a hT
        refine Sx.st_take hT rfl rfl rfl rfl (Sx.x_pick_f hT rfl rfl rfl) ?_
        clear hT; intro a hT
        refine Sx.st_take hT rfl rfl rfl rfl (Sx.x_move hT rfl rfl) ?_
        clear hT; intro a hT
        -- guard (7, 7)
        refine Sx.Sl.two hT 53 rfl (fun hc12 hT => ?_) (fun hc12 hT => ?_)
        · try simp only [decide_eq_true_eq, decide_eq_false_iff_not, Bool.not_eq_true', Bool.not_eq_false', Bool.not_eq_true, Bool.not_eq_false, Bool.and_eq_true, Bool.or_eq_false_iff, beq_iff_eq, bne_iff_ne, Int.not_lt, Int.not_le, ne_eq] at hc12
          refine Sx.st_skip hT rfl rfl rfl rfl ?_
          clear hT; intro a hT
          refine Sx.st_skip hT rfl rfl rfl rfl ?_
          clear hT; intro a hT
          refine Sx.st_skip hT rfl rfl rfl rfl ?_
          clear hT; intro a hT
          refine Sx.st_take hT rfl rfl rfl rfl (Sx.x_pick_t hT rfl rfl rfl) ?_
          clear hT; intro a hT
          replace hT := hT.keep [57, 45, 10, 8, 7, 25, 6, 0, 1, 2] rfl
          refine Sx.ser_nil ?_
          refine Sx.then_normal (hK11 _ _ ?_)
          clear hK11
          refine Sx.wp_if hT rfl (fun _ => ?_) (fun h => by cases h)
          refine wp_seq_k fun K13 hK13 => ?_
          -- region 8 (law.go:76)
          refine Sx.wp_text [(0, .run), (1, .take)] rfl ?_
          refine Sx.st_call hT rfl rfl rfl rfl rfl Try.can7 rfl (first_calls _) ?_
          rintro _ w5 ⟨rfl, E⟩
          refine ⟨_, rfl, ?_⟩
          clear hT; intro a hT
          replace H := H.pure E; clear E
          refine Sx.st_take hT rfl rfl rfl rfl (Sx.x_assign hT rfl rfl) ?_
          clear hT; intro a hT
          replace hT := hT.keep [6, 57, 45, 10, 8, 7, 25, 0, 1, 2] rfl
          refine Sx.ser_nil ?_
          refine Sx.then_normal (hK13 _ _ ?_)
          clear hK13
          refine wp_ret ?_
          refine Sx.then_ret ?_
          refine Sx.done1 (fn := Try.f3) hT rfl (.tmp (hT.get 6 _ rfl)) ?_
          exact ⟨ret_b (by simp), H.ext⟩
        · try simp only [decide_eq_true_eq, decide_eq_false_iff_not, Bool.not_eq_true', Bool.not_eq_false', Bool.not_eq_true, Bool.not_eq_false, Bool.and_eq_true, Bool.or_eq_false_iff, beq_iff_eq, bne_iff_ne, Int.not_lt, Int.not_le, ne_eq] at hc12
          obtain ⟨hl1, hsum⟩ := hb9 (by simpa using hc12)
          refine Sx.st_take hT rfl rfl rfl rfl (Sx.x_move hT rfl rfl) ?_
          clear hT; intro a hT
          refine Sx.st_take hT rfl rfl rfl rfl (Sx.x_lenStr hT rfl rfl Try.underlying9 rfl) ?_
          clear hT; intro a hT
          refine Sx.st_take hT rfl rfl rfl rfl ((fun w => Sx.x_gt w hT rfl rfl rfl)) ?_
          clear hT; intro a hT
          refine Sx.st_take hT rfl rfl rfl rfl (Sx.x_pick_f hT rfl rfl rfl) ?_
          clear hT; intro a hT
          replace hT := hT.keep [57, 45, 10, 8, 7, 25, 6, 0, 1, 2] rfl
          refine Sx.ser_nil ?_
          refine Sx.then_normal (hK11 _ _ ?_)
          clear hK11
          -- cond 2
          refine Sx.wp_if hT rfl (fun hc14 => ?_) (fun hc14 => ?_)
          · try simp only [decide_eq_true_eq, decide_eq_false_iff_not, Bool.not_eq_true', Bool.not_eq_false', Bool.not_eq_true, Bool.not_eq_false, Bool.and_eq_true, Bool.or_eq_false_iff, beq_iff_eq, bne_iff_ne, Int.not_lt, Int.not_le, ne_eq] at hc14
            refine wp_seq_k fun K15 hK15 => ?_
            -- region 8 (law.go:76)
            refine Sx.wp_text [(0, .run), (1, .take)] rfl ?_
            refine Sx.st_call hT rfl rfl rfl rfl rfl Try.can7 rfl (first_calls _) ?_
            rintro _ w6 ⟨rfl, E⟩
            refine ⟨_, rfl, ?_⟩
            clear hT; intro a hT
            replace H := H.pure E; clear E
            refine Sx.st_take hT rfl rfl rfl rfl (Sx.x_assign hT rfl rfl) ?_
            clear hT; intro a hT
            replace hT := hT.keep [6, 57, 45, 10, 8, 7, 25, 0, 1, 2] rfl
            refine Sx.ser_nil ?_
            refine Sx.then_normal (hK15 _ _ ?_)
            clear hK15
            refine wp_ret ?_
            refine Sx.then_ret ?_
            refine Sx.done1 (fn := Try.f3) hT rfl (.tmp (hT.get 6 _ rfl)) ?_
            exact ⟨ret_b (by simp), H.ext⟩
          · try simp only [decide_eq_true_eq, decide_eq_false_iff_not, Bool.not_eq_true', Bool.not_eq_false', Bool.not_eq_true, Bool.not_eq_false, Bool.and_eq_true, Bool.or_eq_false_iff, beq_iff_eq, bne_iff_ne, Int.not_lt, Int.not_le, ne_eq] at hc14
            refine wp_skip ?_
            refine Sx.then_normal (hK10 _ _ ?_)
            clear hK10
            refine wp_seq_k fun K16 hK16 => ?_
            -- region 9 (law.go:78)
            refine Sx.wp_text [(0, .take), (1, .take), (2, .run), (3, .take)] rfl ?_
            refine Sx.st_take hT rfl rfl rfl rfl (Sx.x_move hT rfl rfl) ?_
            clear hT; intro a hT
            refine Sx.st_take hT rfl rfl rfl rfl (Sx.x_bld hT rfl Try.bld37 rfl rfl) ?_
            clear hT; intro a hT
            refine Sx.st_eff hT rfl rfl rfl rfl (Sx.y_box hT rfl rfl rfl _) ?_
            clear hT; rintro _ w7 ⟨b1, rfl, N⟩ a hT
            replace H := H.new N; clear N
            refine Sx.st_take hT rfl rfl rfl rfl (Sx.x_assign hT rfl rfl) ?_
            clear hT; intro a hT
            replace hT := hT.keep [11, 57, 45, 10, 8, 7, 25, 6, 0, 1, 2] rfl
            refine Sx.ser_nil ?_
            refine Sx.then_normal (hK16 _ _ ?_)
            clear hK16
            refine wp_seq_k fun K17 hK17 => ?_
            refine wp_seq_k fun K18 hK18 => ?_
            -- region 10 (law.go:79)
            refine Sx.wp_text [(0, .take)] rfl ?_
            refine Sx.st_take hT rfl rfl rfl rfl (Sx.x_assign hT rfl rfl) ?_
            clear hT; intro a hT
            replace hT := hT.keep [12, 11, 57, 45, 10, 8, 7, 25, 6, 0, 1, 2] rfl
            refine Sx.ser_nil ?_
            refine Sx.then_normal (hK18 _ _ ?_)
            clear hK18
            refine wp_block ?_
            replace H := H.nilR 69 4
            -- loop 0
            refine Sx.wp_loopH (G := Nat × List Wt × Stp × Option Addr × Nat) (fun ⟨i, L, h, adp, cp⟩ => [(12, .int .i64 (i : Int))]) (fun ⟨i, L, h, adp, cp⟩ => [cB p (vwc (m : Int) b h) 79, cM Try.prog 9 b (tw L), cB b1 [.int .i64 (m : Int), .slice adp L.length cp, .int .i64 h.w, .int .i64 h.l, .int .i64 h.n] 37, cR 69 4 adp (L).length cp ((L).flatMap Wt.cells)]) (fun ⟨i, L, h, adp, cp⟩ => i ≤ l.length ∧ GoodV L ∧ L.length ≤ 16 * i) (fun ⟨i, L, h, adp, cp⟩ => l.length - i) (0, [], sz0, none, 0) (hT.keep [12, 11, 57, 45, 10, 8, 7, 25, 0, 1, 2] rfl) (H.keep [3, 4, 1, 0, 2] rfl rfl) (⟨Nat.zero_le _, goodV_nil, Nat.zero_le _⟩) ?_
            clear hT H
            rintro ⟨i, L, h, adp, cp⟩ a w8 hJ hT H
            replace hT := hT.keep [12, 11, 57, 45, 10, 8, 7, 25, 0, 1, 2] rfl
            replace H := H.keep [0, 1, 2, 3, 4] rfl rfl
            obtain ⟨hi, hG, hLn⟩ := hJ
            refine wp_seq_k fun K19 hK19 => ?_
            refine wp_seq_k fun K20 hK20 => ?_
            -- region 11 (law.go:79)
            refine Sx.wp_text [(0, .take), (1, .take), (2, .take), (3, .take)] rfl ?_
            refine Sx.st_take hT rfl rfl rfl rfl (Sx.x_move hT rfl rfl) ?_
            clear hT; intro a hT
            refine Sx.st_take hT rfl rfl rfl rfl (Sx.x_move hT rfl rfl) ?_
            clear hT; intro a hT
            refine Sx.st_take hT rfl rfl rfl rfl (Sx.x_len_slice hT rfl rfl Try.underlying22 rfl) ?_
            clear hT; intro a hT
            refine Sx.st_take hT rfl rfl rfl rfl ((fun w => Sx.x_lt w hT rfl rfl rfl)) ?_
            clear hT; intro a hT
            replace hT := hT.keep [65, 12, 11, 57, 45, 10, 8, 7, 25, 0, 1, 2] rfl
            refine Sx.ser_nil ?_
            refine Sx.then_normal (hK20 _ _ ?_)
            clear hK20
            -- cond 3
            refine Sx.wp_if hT rfl (fun hc21 => ?_) (fun hc21 => ?_)
            · try simp only [decide_eq_true_eq, decide_eq_false_iff_not, Bool.not_eq_true', Bool.not_eq_false', Bool.not_eq_true, Bool.not_eq_false, Bool.and_eq_true, Bool.or_eq_false_iff, beq_iff_eq, bne_iff_ne, Int.not_lt, Int.not_le, ne_eq] at hc21
              obtain ⟨o, ho⟩ : ∃ o, l[i]? = some o := ⟨_, List.getElem?_eq_getElem (by omega)⟩
              have hom := List.mem_of_getElem? ho
              obtain ⟨-, how, -⟩ := hw o hom
              have RMx : Ro w No (fun u => Ss u o.ad Wt.cells 4 o.ws) := RM.mono fun u h => h o hom
              have hob : ∀ x ∈ o.ws, x.key.length ≤ 140737488351232 := fun x hx => (how x hx).1
              have how2 := (ww_facts o.ws 0 (Nat.le_trans (sumN_mem (f := fun x : En => wwF 20000 x.ws 0) hom) hsum)).1
              refine wp_skip ?_
              refine Sx.then_normal (hK19 _ _ ?_)
              clear hK19
              refine wp_seq_k fun K22 hK22 => ?_
              refine wp_block ?_
              refine wp_seq_k fun K23 hK23 => ?_
              -- region 13 (law.go:80)
              refine Sx.wp_text [(0, .take), (1, .take), (2, .take), (3, .run), (4, .run), (5, .run)] rfl ?_
              refine Sx.st_take hT rfl rfl rfl rfl (Sx.x_move hT rfl rfl) ?_
              clear hT; intro a hT
              refine Sx.st_take hT rfl rfl rfl rfl (Sx.x_move hT rfl rfl) ?_
              clear hT; intro a hT
              refine Sx.st_take hT rfl rfl rfl rfl (Sx.x_index (k := i) hT rfl Try.underlying22 Try.ti42 (R.at H.ext).sv rfl rfl (by first | rfl | omega) (by omega)) ?_
              clear hT; intro a hT
              refine Sx.st_run hT rfl rfl rfl rfl (Sx.y_loadS hT rfl Try.underlying42 Try.ti42 rfl (by first | exact ((H.blk 0 rfl).seg (k := 7) rfl) | exact ((H.blk 2 rfl).seg (k := 7) rfl) | exact ((R.at H.ext).cs En.len ho)) (by rfl)) ?_
              clear hT; intro a hT
              refine Sx.st_eff hT rfl rfl rfl rfl (Sx.y_alloc hT rfl Try.ti42 rfl _) ?_
              clear hT; rintro _ w9 ⟨b2, rfl, N⟩ a hT
              replace H := H.new N; clear N
              refine Sx.st_act hT rfl rfl rfl (Sx.y_storeS hT rfl Try.ti42 rfl rfl rfl rfl rfl (H.blk 0 rfl) rfl) ?_
              rintro w10 ⟨hb, E, _⟩
              replace H := H.setB 0 rfl hb E rfl; clear hb E
              replace hT := hT.keep [13, 65, 12, 11, 57, 45, 10, 8, 7, 25, 0, 1, 2] rfl
              refine Sx.ser_nil ?_
              refine Sx.then_normal (hK23 _ _ ?_)
              clear hK23
              refine wp_seq_k fun K24 hK24 => ?_
              -- region 14 (law.go:81)
              refine Sx.wp_text [(0, .take), (1, .take), (2, .take), (3, .take), (4, .run), (5, .run), (6, .take), (7, .run)] rfl ?_
              refine Sx.st_take hT rfl rfl rfl rfl (Sx.x_move hT rfl rfl) ?_
              clear hT; intro a hT
              refine Sx.st_take hT rfl rfl rfl rfl (Sx.x_move hT rfl rfl) ?_
              clear hT; intro a hT
              refine Sx.st_take hT rfl rfl rfl rfl (Sx.x_index (k := i) hT rfl Try.underlying22 Try.ti42 (R.at H.ext).sv rfl rfl (by first | rfl | omega) (by omega)) ?_
              clear hT; intro a hT
              refine Sx.st_take hT rfl rfl rfl rfl (Sx.x_fieldAddr hT rfl Try.fa42_2 rfl) ?_
              clear hT; intro a hT
              refine Sx.st_run hT rfl rfl rfl rfl (Sx.x_load1 hT rfl Try.fl40 rfl (by first | exact ((H.blk 0 rfl).nth rfl) | exact ((H.blk 1 rfl).nth rfl) | exact ((H.blk 3 rfl).nth rfl) | exact ((R.at H.ext).cell (j := 6) En.len ho rfl))) ?_
              clear hT; intro a hT
              refine Sx.st_call hT rfl rfl rfl rfl rfl Try.can11 rfl (CopyWrites_calls o.ws ((RM.at H.ext) o hom) (by omega)) ?_
              rintro _ w11 ⟨ad7, c7, rfl, K⟩
              refine ⟨_, rfl, ?_⟩
              clear hT; intro a hT
              replace H := H.more K rfl; clear K
              refine Sx.st_take hT rfl rfl rfl rfl (Sx.x_fieldAddr hT rfl Try.fa42_2 rfl) ?_
              clear hT; intro a hT
              refine Sx.st_act hT rfl rfl rfl (Sx.y_store1 hT rfl Try.ti40 rfl rfl rfl (H.blk 1 rfl) rfl) ?_
              rintro w12 ⟨hb, E, _⟩
              replace H := H.setB 1 rfl hb E rfl; clear hb E
              replace hT := hT.keep [13, 65, 12, 11, 57, 45, 10, 8, 7, 25, 0, 1, 2] rfl
              refine Sx.ser_nil ?_
              refine Sx.then_normal (hK24 _ _ ?_)
              clear hK24
              refine wp_seq_k fun K25 hK25 => ?_
              refine wp_seq_k fun K26 hK26 => ?_
              -- region 15 (law.go:82)
              refine Sx.wp_draws (fun u => Sx.Ext (fun k => ¬ Sx.Rest w (Sx.No) k) u) [(0, .take), (3, .take), (4, .take), (5, .take), (6, .take), (7, .held), (1, .keep), (2, .keep), (8, .keep), (9, .take), (10, .take), (11, .take), (13, .take), (14, .take), (15, .take), (16, .take), (17, .held), (12, .keep), (18, .run), (19, .take), (20, .take)] (by kernel_rfl) (by kernel_rfl) (fun u E _ => ?_)
              replace H := H.pure E; clear E
              have hH : Sx.Ext (fun k => ¬ Sx.Rest w (Sx.No) k) u u := Sx.Ext.refl _ _
              have Hu := H
              refine Sx.st_take hT rfl rfl rfl rfl (Sx.x_move hT rfl rfl) ?_
              clear hT; intro a hT
              refine Sx.st_take hT rfl rfl rfl rfl (Sx.x_move hT rfl rfl) ?_
              clear hT; intro a hT
              refine Sx.st_take hT rfl rfl rfl rfl (Sx.x_move hT rfl rfl) ?_
              clear hT; intro a hT
              refine Sx.st_take hT rfl rfl rfl rfl (Sx.x_move hT rfl rfl) ?_
              clear hT; intro a hT
              refine Sx.st_take hT rfl rfl rfl rfl (Sx.x_index (k := i) hT rfl Try.underlying22 Try.ti42 (R.at H.ext).sv rfl rfl (by first | rfl | omega) (by omega)) ?_
              clear hT; intro a hT
              refine Sx.st_held hT rfl rfl rfl rfl hH (fun w' h' => Sx.y_loadS hT rfl Try.underlying42 Try.ti42 rfl ((R.at (Hu.extR h')).cs En.len ho) (by rfl)) ?_
              clear hT; intro a hT
              refine Sx.st_keep hT rfl rfl rfl rfl (Sx.y_loadS hT rfl Try.underlying42 Try.ti42 rfl ((H.blk 1 rfl).seg (k := 7) rfl) (by rfl)) hH ?_
              clear hT; intro a hT
              refine Sx.st_callkeep hT rfl rfl rfl rfl rfl Try.can12 rfl (Apply_calls o.t o.s o.ws (H.pre [2, 3] rfl rfl) ((H.lend 0 rfl [2, 3] rfl rfl).mono fun u h => Row.ssn h rfl) (by omega) (by omega) hob) ?_
              rintro _ w13 ⟨rfl, K⟩
              refine ⟨_, rfl, hH.same (H.toRest [2, 3] rfl K.ext), ?_⟩
              replace hH := hH.same (H.toRest [2, 3] rfl K.ext)
              clear hT; intro a hT
              replace H := H.back [2, 3] [0, 1, 4, 5, 6] rfl rfl rfl K rfl; clear K
              refine Sx.st_callkeep hT rfl rfl rfl rfl rfl Try.can13 rfl (Apply27_calls o.t o.s o.ws (H.pre [4, 5] rfl rfl) (H.ro RMx [4, 5] rfl) (by omega) (by omega) hG.srt) ?_
              rintro _ w14 ⟨adq, cq, rfl, K⟩
              refine ⟨_, rfl, hH.same (H.toRest [4, 5] rfl K.ext), ?_⟩
              replace hH := hH.same (H.toRest [4, 5] rfl K.ext)
              clear hT; intro a hT
              replace H := H.back [4, 5] [0, 1, 2, 3, 6] rfl rfl rfl K rfl; clear K
              have hG2 := app_good (h := h) (t := o.t) (s := o.s) (l := o.ws) hG
              obtain ⟨L2, hL2⟩ : ∃ L2, L2 = appL h o.t o.s L o.ws := ⟨_, rfl⟩
              obtain ⟨h2, hh2⟩ : ∃ h2, h2 = appH h o.t o.s o.ws := ⟨_, rfl⟩
              rw [← hL2] at H hG2
              rw [← hh2] at H
              obtain ⟨hG2, hLn2⟩ := hG2
              have hkb : ∀ x ∈ L2, x.key.length ≤ 140737488351232 := fun x hx => by have := (hG2.el x hx).2.1; omega
              have hE2 := good_ofE hG2 hm1 hm2
              have hgs := groups_srt hG2 hm1 hm2
              have hgl := groups_len m L2
              refine Sx.st_take hT rfl rfl rfl rfl ((fun w => Sx.x_ne w hT rfl rfl rfl)) ?_
              clear hT; intro a hT
              refine Sx.st_take hT rfl rfl rfl rfl (Sx.x_move hT rfl rfl) ?_
              clear hT; intro a hT
              -- guard (15, 10)
              refine Sx.Sl.two hT 89 rfl (fun hc27 hT => ?_) (fun hc27 hT => ?_)
              · exfalso
                try simp only [decide_eq_true_eq, decide_eq_false_iff_not, Bool.not_eq_true', Bool.not_eq_false', Bool.not_eq_true, Bool.not_eq_false, Bool.and_eq_true, Bool.or_eq_false_iff, beq_iff_eq, bne_iff_ne, Int.not_lt, Int.not_le, ne_eq] at hc27
                simp at hc27
              · try simp only [decide_eq_true_eq, decide_eq_false_iff_not, Bool.not_eq_true', Bool.not_eq_false', Bool.not_eq_true, Bool.not_eq_false, Bool.and_eq_true, Bool.or_eq_false_iff, beq_iff_eq, bne_iff_ne, Int.not_lt, Int.not_le, ne_eq] at hc27
                refine Sx.st_take hT rfl rfl rfl rfl (Sx.x_fieldAddr hT rfl Try.fa42_2 rfl) ?_
                clear hT; intro a hT
                refine Sx.st_take hT rfl rfl rfl rfl (Sx.x_move hT rfl rfl) ?_
                clear hT; intro a hT
                refine Sx.st_take hT rfl rfl rfl rfl (Sx.x_move hT rfl rfl) ?_
                clear hT; intro a hT
                refine Sx.st_take hT rfl rfl rfl rfl (Sx.x_index (k := i) hT rfl Try.underlying22 Try.ti42 (R.at H.ext).sv rfl rfl (by first | rfl | omega) (by omega)) ?_
                clear hT; intro a hT
                refine Sx.st_take hT rfl rfl rfl rfl (Sx.x_fieldAddr hT rfl Try.fa42_2 rfl) ?_
                clear hT; intro a hT
                refine Sx.st_held hT rfl rfl rfl rfl hH (fun w' h' => Sx.x_load1 hT rfl Try.fl40 rfl ((R.at (Hu.extR h')).cell (j := 6) En.len ho rfl)) ?_
                clear hT; intro a hT
                refine Sx.st_keep hT rfl rfl rfl rfl (Sx.x_load1 hT rfl Try.fl40 rfl ((H.blk 5 rfl).nth rfl)) hH ?_
                clear hT; intro a hT
                refine Sx.st_call hT rfl rfl rfl rfl rfl Try.can14 rfl (Writes_calls o.ws o.ws ((H.row 4 rfl).ssn rfl) ((RM.at H.ext) o hom) (by omega)) ?_
                rintro _ w15 ⟨rfl, E⟩
                refine ⟨_, rfl, ?_⟩
                clear hT; intro a hT
                replace H := H.pure E; clear E
                refine Sx.st_take hT rfl rfl rfl rfl (Sx.x_not hT rfl rfl) ?_
                clear hT; intro a hT
                refine Sx.st_take hT rfl rfl rfl rfl (Sx.x_pick_f hT rfl rfl rfl) ?_
                clear hT; intro a hT
                replace hT := hT.keep [99, 13, 65, 12, 11, 57, 45, 10, 8, 7, 25, 0, 1, 2] rfl
                clear Hu hH
                refine Sx.ser_calm ?_
                refine Sx.then_normal (hK26 _ _ ?_)
                clear hK26
                -- cond 4
                refine Sx.wp_if hT rfl (fun hc28 => ?_) (fun hc28 => ?_)
                · exfalso
                  try simp only [decide_eq_true_eq, decide_eq_false_iff_not, Bool.not_eq_true', Bool.not_eq_false', Bool.not_eq_true, Bool.not_eq_false, Bool.and_eq_true, Bool.or_eq_false_iff, beq_iff_eq, bne_iff_ne, Int.not_lt, Int.not_le, ne_eq] at hc28
                  simp at hc28
                · try simp only [decide_eq_true_eq, decide_eq_false_iff_not, Bool.not_eq_true', Bool.not_eq_false', Bool.not_eq_true, Bool.not_eq_false, Bool.and_eq_true, Bool.or_eq_false_iff, beq_iff_eq, bne_iff_ne, Int.not_lt, Int.not_le, ne_eq] at hc28
                  refine wp_skip ?_
                  refine Sx.then_normal (hK25 _ _ ?_)
                  clear hK25
                  refine wp_seq_k fun K29 hK29 => ?_
                  refine wp_seq_k fun K30 hK30 => ?_
                  -- region 17 (law.go:85)
                  refine Sx.wp_text [(0, .take)] rfl ?_
                  refine Sx.st_take hT rfl rfl rfl rfl (Sx.x_assign hT rfl rfl) ?_
                  clear hT; intro a hT
                  replace hT := hT.keep [14, 99, 13, 65, 12, 11, 57, 45, 10, 8, 7, 25, 0, 1, 2] rfl
                  refine Sx.ser_nil ?_
                  refine Sx.then_normal (hK30 _ _ ?_)
                  clear hK30
                  refine wp_block ?_
                  -- loop 1
                  refine Sx.wp_loopH (G := Nat × List Wt) (fun ⟨k, W9⟩ => [(14, .int .i64 (k : Int))]) (fun ⟨k, W9⟩ => [cR 50 4 ad7 o.ws.length c7 (W9.flatMap Wt.cells)]) (fun ⟨k, W9⟩ => k ≤ o.ws.length ∧ W9.length = o.ws.length) (fun ⟨k, W9⟩ => o.ws.length - k) (0, o.ws) (hT.keep [14, 99, 13, 65, 12, 11, 57, 45, 10, 8, 7, 25, 0, 1, 2] rfl) (H.keep [4, 0, 1, 2, 3, 5, 6] rfl rfl) (⟨Nat.zero_le _, rfl⟩) ?_
                  clear hT H
                  rintro ⟨k, W9⟩ a w16 hJ hT H
                  replace hT := hT.keep [14, 99, 13, 65, 12, 11, 57, 45, 10, 8, 7, 25, 0, 1, 2] rfl
                  replace H := H.keep [0, 1, 2, 3, 4, 5, 6] rfl rfl
                  obtain ⟨hk, hWl⟩ := hJ
                  refine wp_seq_k fun K31 hK31 => ?_
                  refine wp_seq_k fun K32 hK32 => ?_
                  -- region 18 (law.go:85)
                  refine Sx.wp_text [(0, .take), (1, .take), (2, .run), (3, .take), (4, .take)] rfl ?_
                  refine Sx.st_take hT rfl rfl rfl rfl (Sx.x_move hT rfl rfl) ?_
                  clear hT; intro a hT
                  refine Sx.st_take hT rfl rfl rfl rfl (Sx.x_fieldAddr hT rfl Try.fa42_2 rfl) ?_
                  clear hT; intro a hT
                  refine Sx.st_run hT rfl rfl rfl rfl (Sx.x_load1 hT rfl Try.fl40 rfl ((H.blk 5 rfl).nth rfl)) ?_
                  clear hT; intro a hT
                  refine Sx.st_take hT rfl rfl rfl rfl (Sx.x_len_slice hT rfl rfl Try.underlying40 rfl) ?_
                  clear hT; intro a hT
                  refine Sx.st_take hT rfl rfl rfl rfl ((fun w => Sx.x_lt w hT rfl rfl rfl)) ?_
                  clear hT; intro a hT
                  replace hT := hT.keep [104, 14, 99, 13, 65, 12, 11, 57, 45, 10, 8, 7, 25, 0, 1, 2] rfl
                  refine Sx.ser_nil ?_
                  refine Sx.then_normal (hK32 _ _ ?_)
                  clear hK32
                  -- cond 5
                  refine Sx.wp_if hT rfl (fun hc33 => ?_) (fun hc33 => ?_)
                  · try simp only [decide_eq_true_eq, decide_eq_false_iff_not, Bool.not_eq_true', Bool.not_eq_false', Bool.not_eq_true, Bool.not_eq_false, Bool.and_eq_true, Bool.or_eq_false_iff, beq_iff_eq, bne_iff_ne, Int.not_lt, Int.not_le, ne_eq] at hc33
                    refine wp_skip ?_
                    refine Sx.then_normal (hK31 _ _ ?_)
                    clear hK31
                    refine wp_seq_k fun K34 hK34 => ?_
                    refine wp_block ?_
                    -- region 20 (law.go:86)
                    refine Sx.wp_text [(0, .take), (1, .run), (2, .take), (3, .take), (4, .take), (5, .run)] rfl ?_
                    refine Sx.st_take hT rfl rfl rfl rfl (Sx.x_fieldAddr hT rfl Try.fa42_2 rfl) ?_
                    clear hT; intro a hT
                    refine Sx.st_run hT rfl rfl rfl rfl (Sx.x_load1 hT rfl Try.fl40 rfl ((H.blk 5 rfl).nth rfl)) ?_
                    clear hT; intro a hT
                    refine Sx.st_take hT rfl rfl rfl rfl (Sx.x_move hT rfl rfl) ?_
                    clear hT; intro a hT
                    refine Sx.st_take hT rfl rfl rfl rfl (Sx.x_bld hT rfl Try.bld50 rfl rfl) ?_
                    clear hT; intro a hT
                    refine Sx.st_take hT rfl rfl rfl rfl (Sx.x_index hT rfl Try.underlying40 Try.ti50 (H.row 0 rfl).sv rfl rfl rfl (by omega)) ?_
                    clear hT; intro a hT
                    refine Sx.st_act hT rfl rfl rfl (Sx.x_storeRowS (k := k) (r := spW) hT rfl Try.ti50 rfl rfl Wt.len Wt.one rfl (H.row 0 rfl) hWl.symm (by omega)) ?_
                    rintro w17 ⟨hr, E, _⟩
                    replace H := H.setR 0 rfl hr E (fun _ hk => .inl hk) rfl; clear hr E
                    replace hT := hT.keep [104, 14, 99, 13, 65, 12, 11, 57, 45, 10, 8, 7, 25, 0, 1, 2] rfl
                    refine Sx.ser_nil ?_
                    refine Sx.block_normal ?_
                    refine Sx.then_normal (hK34 _ _ ?_)
                    clear hK34
                    -- region 19 (law.go:85)
                    refine Sx.wp_text [(0, .take), (1, .take), (2, .take)] rfl ?_
                    refine Sx.st_take hT rfl rfl rfl rfl (Sx.x_move hT rfl rfl) ?_
                    clear hT; intro a hT
                    refine Sx.st_take hT rfl rfl rfl rfl ((fun w => Sx.x_add w hT rfl rfl rfl (Sx.wrap64 (by omega)))) ?_
                    clear hT; intro a hT
                    refine Sx.st_take hT rfl rfl rfl rfl (Sx.x_assign hT rfl rfl) ?_
                    clear hT; intro a hT
                    replace hT := hT.keep [14, 104, 99, 13, 65, 12, 11, 57, 45, 10, 8, 7, 25, 0, 1, 2] rfl
                    refine Sx.ser_nil ?_
                    refine Sx.then_normal ?_
                    exact ⟨(k + 1, W9.set k spW), ⟨by show k + 1 ≤ _; omega, by show List.length (W9.set _ _) = _; rw [List.length_set, hWl]⟩, (hT.keep [14, 99, 13, 65, 12, 11, 57, 45, 10, 8, 7, 25, 0, 1, 2] rfl), (H.keep [0, 1, 2, 3, 4, 5, 6] rfl rfl), by show _ - (k + 1) < _ - k; omega⟩
                  · try simp only [decide_eq_true_eq, decide_eq_false_iff_not, Bool.not_eq_true', Bool.not_eq_false', Bool.not_eq_true, Bool.not_eq_false, Bool.and_eq_true, Bool.or_eq_false_iff, beq_iff_eq, bne_iff_ne, Int.not_lt, Int.not_le, ne_eq] at hc33
                    refine wp_exit ?_
                    refine Sx.then_exit ?_
                    refine Sx.then_exit ?_
                    refine Sx.block_exit ?_
                    refine Sx.then_normal (hK29 _ _ ?_)
                    clear hK29
                    refine wp_seq_k fun K35 hK35 => ?_
                    -- region 21 (law.go:88)
                    refine Sx.wp_text [(0, .take), (1, .take), (2, .take), (3, .run), (4, .take), (5, .run), (6, .take), (7, .take), (8, .take), (9, .take), (10, .take)] rfl ?_
                    refine Sx.st_take hT rfl rfl rfl rfl (Sx.x_move hT rfl rfl) ?_
                    clear hT; intro a hT
                    refine Sx.st_take hT rfl rfl rfl rfl (Sx.x_nilCheck hT rfl rfl) ?_
                    clear hT; intro a hT
                    refine Sx.st_take hT rfl rfl rfl rfl (Sx.x_fieldAddr hT rfl Try.fa37_1 rfl) ?_
                    clear hT; intro a hT
                    refine Sx.st_run hT rfl rfl rfl rfl (Sx.x_load1 hT rfl Try.fl33 rfl ((H.blk 1 rfl).nth rfl)) ?_
                    clear hT; intro a hT
                    refine Sx.st_take hT rfl rfl rfl rfl (Sx.x_move hT rfl rfl) ?_
                    clear hT; intro a hT
                    refine Sx.st_call hT rfl rfl rfl rfl rfl Try.can9 rfl (xOf_calls L2 ((H.row 2 rfl).ssn rfl) (m : Int) (by omega) hkb) ?_
                    rintro _ w18 ⟨ad6, c6, rfl, K⟩
                    refine ⟨_, rfl, ?_⟩
                    clear hT; intro a hT
                    replace H := H.more K rfl; clear K
                    rw [hE2.2] at H hT
                    rw [hE2.1] at hT
                    refine Sx.st_take hT rfl rfl rfl rfl (Sx.x_move hT rfl rfl) ?_
                    clear hT; intro a hT
                    refine Sx.st_take hT rfl rfl rfl rfl (Sx.x_extractL hT rfl rfl rfl) ?_
                    clear hT; intro a hT
                    refine Sx.st_take hT rfl rfl rfl rfl (Sx.x_extractL hT rfl rfl rfl) ?_
                    clear hT; intro a hT
                    refine Sx.st_take hT rfl rfl rfl rfl (Sx.x_assign hT rfl rfl) ?_
                    clear hT; intro a hT
                    refine Sx.st_take hT rfl rfl rfl rfl (Sx.x_assign hT rfl rfl) ?_
                    clear hT; intro a hT
                    replace hT := hT.keep [15, 104, 14, 99, 13, 65, 12, 11, 57, 45, 10, 8, 7, 25, 0, 1, 2] rfl
                    refine Sx.ser_nil ?_
                    refine Sx.then_normal (hK35 _ _ ?_)
                    clear hK35
                    refine wp_seq_k fun K36 hK36 => ?_
                    -- region 22 (law.go:89)
                    refine Sx.wp_text [(0, .take), (1, .run), (2, .take)] rfl ?_
                    refine Sx.st_take hT rfl rfl rfl rfl (Sx.x_move hT rfl rfl) ?_
                    clear hT; intro a hT
                    refine Sx.st_call hT rfl rfl rfl rfl rfl Try.can15 rfl (Groups_calls (H.blk 4 rfl) (H.mp 5 rfl) hG2.srt (by omega) hm2 hkb) ?_
                    rintro _ w19 ⟨adg, cg, rfl, K⟩
                    refine ⟨_, rfl, ?_⟩
                    clear hT; intro a hT
                    replace H := H.more K rfl; clear K
                    refine Sx.st_take hT rfl rfl rfl rfl (Sx.x_assign hT rfl rfl) ?_
                    clear hT; intro a hT
                    replace hT := hT.keep [17, 15, 104, 14, 99, 13, 65, 12, 11, 57, 45, 10, 8, 7, 25, 0, 1, 2] rfl
                    refine Sx.ser_nil ?_
                    refine Sx.then_normal (hK36 _ _ ?_)
                    clear hK36
                    refine wp_seq_k fun K37 hK37 => ?_
                    refine wp_seq_k fun K38 hK38 => ?_
                    -- region 23 (law.go:90)
                    refine Sx.wp_draws (fun u => Sx.Ext (Sx.No) u) [(0, .take), (1, .take), (2, .keep), (3, .take), (4, .take), (5, .take), (7, .take), (8, .take), (9, .take), (10, .held), (6, .keep), (11, .take), (12, .take)] (by kernel_rfl) (by kernel_rfl) (fun u E _ => ?_)
                    replace H := H.pure E; clear E
                    have hH : Sx.Ext (Sx.No) u u := Sx.Ext.refl _ _
                    have Hu := H
                    refine Sx.st_take hT rfl rfl rfl rfl (Sx.x_move hT rfl rfl) ?_
                    clear hT; intro a hT
                    refine Sx.st_take hT rfl rfl rfl rfl (Sx.x_move hT rfl rfl) ?_
                    clear hT; intro a hT
                    refine Sx.st_callkeep hT rfl rfl rfl rfl rfl Try.can16 rfl (sameG_calls (groupsF m L2) (groupsF m L2) ((H.row 0 rfl).ssn rfl) ((H.row 1 rfl).ssn rfl) (by omega)) ?_
                    rintro _ w20 ⟨rfl, E⟩
                    refine ⟨_, rfl, hH.step E, ?_⟩
                    replace hH := hH.step E
                    clear hT; intro a hT
                    replace H := H.pure E; clear E
                    refine Sx.st_take hT rfl rfl rfl rfl (Sx.x_not hT rfl rfl) ?_
                    clear hT; intro a hT
                    refine Sx.st_take hT rfl rfl rfl rfl (Sx.x_move hT rfl rfl) ?_
                    clear hT; intro a hT
                    -- guard (23, 4)
                    refine Sx.Sl.two hT 127 rfl (fun hc39 hT => ?_) (fun hc39 hT => ?_)
                    · exfalso
                      try simp only [decide_eq_true_eq, decide_eq_false_iff_not, Bool.not_eq_true', Bool.not_eq_false', Bool.not_eq_true, Bool.not_eq_false, Bool.and_eq_true, Bool.or_eq_false_iff, beq_iff_eq, bne_iff_ne, Int.not_lt, Int.not_le, ne_eq] at hc39
                      simp at hc39
                    · try simp only [decide_eq_true_eq, decide_eq_false_iff_not, Bool.not_eq_true', Bool.not_eq_false', Bool.not_eq_true, Bool.not_eq_false, Bool.and_eq_true, Bool.or_eq_false_iff, beq_iff_eq, bne_iff_ne, Int.not_lt, Int.not_le, ne_eq] at hc39
                      refine Sx.st_take hT rfl rfl rfl rfl (Sx.x_move hT rfl rfl) ?_
                      clear hT; intro a hT
                      refine Sx.st_take hT rfl rfl rfl rfl (Sx.x_move hT rfl rfl) ?_
                      clear hT; intro a hT
                      refine Sx.st_take hT rfl rfl rfl rfl (Sx.x_nilCheck hT rfl rfl) ?_
                      clear hT; intro a hT
                      refine Sx.st_take hT rfl rfl rfl rfl (Sx.x_fieldAddr hT rfl Try.fa37_2 rfl) ?_
                      clear hT; intro a hT
                      refine Sx.st_held hT rfl rfl rfl rfl hH (fun w' h' => Sx.y_loadS hT rfl Try.underlying35 Try.ti35 rfl ((Hu.heldB 3 rfl h' Sx.off_No).seg (k := 3) rfl) (by rfl)) ?_
                      clear hT; intro a hT
                      refine Sx.st_callkeep hT rfl rfl rfl rfl rfl Try.can17 rfl (High_calls (H.blk 5 rfl)) ?_
                      rintro _ w21 ⟨rfl, E⟩
                      refine ⟨_, rfl, hH.step E, ?_⟩
                      replace hH := hH.step E
                      clear hT; intro a hT
                      replace H := H.pure E; clear E
                      refine Sx.st_take hT rfl rfl rfl rfl (Sx.x_neS hT rfl (by kernel_rfl) (Try.eq35 _ _ _ _ _ _) rfl rfl rfl) ?_
                      clear hT; intro a hT
                      refine Sx.st_take hT rfl rfl rfl rfl (Sx.x_pick_f hT rfl rfl rfl) ?_
                      clear hT; intro a hT
                      replace hT := hT.keep [135, 17, 15, 104, 14, 99, 13, 65, 12, 11, 57, 45, 10, 8, 7, 25, 0, 1, 2] rfl
                      clear Hu hH
                      refine Sx.ser_calm ?_
                      refine Sx.then_normal (hK38 _ _ ?_)
                      clear hK38
                      -- cond 6
                      refine Sx.wp_if hT rfl (fun hc40 => ?_) (fun hc40 => ?_)
                      · exfalso
                        try simp only [decide_eq_true_eq, decide_eq_false_iff_not, Bool.not_eq_true', Bool.not_eq_false', Bool.not_eq_true, Bool.not_eq_false, Bool.and_eq_true, Bool.or_eq_false_iff, beq_iff_eq, bne_iff_ne, Int.not_lt, Int.not_le, ne_eq] at hc40
                        simp at hc40
                      · try simp only [decide_eq_true_eq, decide_eq_false_iff_not, Bool.not_eq_true', Bool.not_eq_false', Bool.not_eq_true, Bool.not_eq_false, Bool.and_eq_true, Bool.or_eq_false_iff, beq_iff_eq, bne_iff_ne, Int.not_lt, Int.not_le, ne_eq] at hc40
                        refine wp_skip ?_
                        refine Sx.then_normal (hK37 _ _ ?_)
                        clear hK37
                        refine wp_seq_k fun K41 hK41 => ?_
                        -- region 25 (law.go:93)
                        refine Sx.wp_text [(0, .take)] rfl ?_
                        refine Sx.st_take hT rfl rfl rfl rfl (Sx.x_assign hT rfl rfl) ?_
                        clear hT; intro a hT
                        replace hT := hT.keep [18, 135, 17, 15, 104, 14, 99, 13, 65, 12, 11, 57, 45, 10, 8, 7, 25, 0, 1, 2] rfl
                        refine Sx.ser_nil ?_
                        refine Sx.then_normal (hK41 _ _ ?_)
                        clear hK41
                        refine wp_seq_k fun K42 hK42 => ?_
                        refine wp_seq_k fun K43 hK43 => ?_
                        -- region 26 (law.go:94)
                        refine Sx.wp_text [(0, .take)] rfl ?_
                        refine Sx.st_take hT rfl rfl rfl rfl (Sx.x_assign hT rfl rfl) ?_
                        clear hT; intro a hT
                        replace hT := hT.keep [19, 18, 135, 17, 15, 104, 14, 99, 13, 65, 12, 11, 57, 45, 10, 8, 7, 25, 0, 1, 2] rfl
                        refine Sx.ser_nil ?_
                        refine Sx.then_normal (hK43 _ _ ?_)
                        clear hK43
                        refine wp_block ?_
                        -- loop 2
                        refine Sx.wp_loopH (G := Nat × List G6 × Bool) (fun ⟨k, G9, mt⟩ => [(19, .int .i64 (k : Int)), (18, .bool mt)]) (fun ⟨k, G9, mt⟩ => [cR 56 6 adg (groupsF m L2).length cg (G9.flatMap G6.cells)]) (fun ⟨k, G9, mt⟩ => k ≤ (groupsF m L2).length ∧ G9.length = (groupsF m L2).length ∧ mt = metG ((groupsF m L2).take k) nm) (fun ⟨k, G9, mt⟩ => (groupsF m L2).length - k) (0, groupsF m L2, false) (hT.keep [19, 18, 135, 17, 15, 104, 14, 99, 13, 65, 12, 11, 57, 45, 10, 8, 7, 25, 0, 1, 2] rfl) (H.keep [0, 1, 2, 3, 4, 5, 6, 7, 8] rfl rfl) (⟨Nat.zero_le _, rfl, (by rw [List.take_zero]; rfl)⟩) ?_
                        clear hT H
                        rintro ⟨k, G9, mt⟩ a w22 hJ hT H
                        replace hT := hT.keep [19, 18, 135, 17, 15, 104, 14, 99, 13, 65, 12, 11, 57, 45, 10, 8, 7, 25, 0, 1, 2] rfl
                        replace H := H.keep [0, 1, 2, 3, 4, 5, 6, 7, 8] rfl rfl
                        obtain ⟨hk, hGl, hmt⟩ := hJ
                        refine wp_seq_k fun K44 hK44 => ?_
                        refine wp_seq_k fun K45 hK45 => ?_
                        -- region 27 (law.go:94)
                        refine Sx.wp_text [(0, .take), (1, .take), (2, .take), (3, .take)] rfl ?_
                        refine Sx.st_take hT rfl rfl rfl rfl (Sx.x_move hT rfl rfl) ?_
                        clear hT; intro a hT
                        refine Sx.st_take hT rfl rfl rfl rfl (Sx.x_move hT rfl rfl) ?_
                        clear hT; intro a hT
                        refine Sx.st_take hT rfl rfl rfl rfl (Sx.x_len_slice hT rfl rfl Try.underlying28 rfl) ?_
                        clear hT; intro a hT
                        refine Sx.st_take hT rfl rfl rfl rfl ((fun w => Sx.x_lt w hT rfl rfl rfl)) ?_
                        clear hT; intro a hT
                        replace hT := hT.keep [139, 19, 18, 135, 17, 15, 104, 14, 99, 13, 65, 12, 11, 57, 45, 10, 8, 7, 25, 0, 1, 2] rfl
                        refine Sx.ser_nil ?_
                        refine Sx.then_normal (hK45 _ _ ?_)
                        clear hK45
                        -- cond 7
                        refine Sx.wp_if hT rfl (fun hc46 => ?_) (fun hc46 => ?_)
                        · try simp only [decide_eq_true_eq, decide_eq_false_iff_not, Bool.not_eq_true', Bool.not_eq_false', Bool.not_eq_true, Bool.not_eq_false, Bool.and_eq_true, Bool.or_eq_false_iff, beq_iff_eq, bne_iff_ne, Int.not_lt, Int.not_le, ne_eq] at hc46
                          obtain ⟨o2, ho2⟩ : ∃ o, (groupsF m L2)[k]? = some o := ⟨_, List.getElem?_eq_getElem (by omega)⟩
                          refine wp_skip ?_
                          refine Sx.then_normal (hK44 _ _ ?_)
                          clear hK44
                          refine wp_seq_k fun K47 hK47 => ?_
                          refine wp_block ?_
                          refine wp_seq_k fun K48 hK48 => ?_
                          -- region 29 (law.go:95)
                          refine Sx.wp_text [(0, .take), (1, .take), (2, .take), (3, .take), (4, .take), (5, .run), (6, .run), (7, .take), (8, .take), (9, .take), (10, .run), (11, .run), (12, .take)] rfl ?_
                          refine Sx.st_take hT rfl rfl rfl rfl (Sx.x_move hT rfl rfl) ?_
                          clear hT; intro a hT
                          refine Sx.st_take hT rfl rfl rfl rfl (Sx.x_move hT rfl rfl) ?_
                          clear hT; intro a hT
                          refine Sx.st_take hT rfl rfl rfl rfl (Sx.x_move hT rfl rfl) ?_
                          clear hT; intro a hT
                          refine Sx.st_take hT rfl rfl rfl rfl (Sx.x_index (k := k) hT rfl Try.underlying28 Try.ti59 (H.row 1 rfl).sv rfl rfl (by first | rfl | omega) (by omega)) ?_
                          clear hT; intro a hT
                          refine Sx.st_take hT rfl rfl rfl rfl (Sx.x_fieldAddr hT rfl Try.fa59_0 rfl) ?_
                          clear hT; intro a hT
                          refine Sx.st_run hT rfl rfl rfl rfl (Sx.x_load1 hT rfl Try.fl9 rfl (((H.row 1 rfl).ssn rfl).cell (j := 0) G6.len ho2 rfl)) ?_
                          clear hT; intro a hT
                          refine Sx.st_call hT rfl rfl rfl rfl rfl Try.can18 rfl (Group_calls o2.name (H.blk 5 rfl) (H.mp 6 rfl) hG2.srt (by omega) hm2 hkb) ?_
                          rintro _ w23 ⟨rfl, E⟩
                          refine ⟨_, rfl, ?_⟩
                          clear hT; intro a hT
                          replace H := H.pure E; clear E
                          rw [gfind_at hgs ho2] at hT
                          rw [show (some o2).getD gz6 = o2 from rfl, show (some o2).isSome = true from rfl] at hT
                          refine Sx.st_take hT rfl rfl rfl rfl (Sx.x_move hT rfl rfl) ?_
                          clear hT; intro a hT
                          refine Sx.st_take hT rfl rfl rfl rfl (Sx.x_extractL hT rfl rfl rfl) ?_
                          clear hT; intro a hT
                          refine Sx.st_take hT rfl rfl rfl rfl (Sx.x_extractL hT rfl rfl rfl) ?_
                          clear hT; intro a hT
                          refine Sx.st_eff hT rfl rfl rfl rfl (Sx.y_alloc hT rfl Try.ti56 rfl _) ?_
                          clear hT; rintro _ w24 ⟨b3, rfl, N⟩ a hT
                          replace H := H.new N; clear N
                          refine Sx.st_act hT rfl rfl rfl (Sx.y_storeS hT rfl Try.ti56 rfl rfl rfl rfl rfl (H.blk 0 rfl) rfl) ?_
                          rintro w25 ⟨hb, E, _⟩
                          replace H := H.setB 0 rfl hb E rfl; clear hb E
                          refine Sx.st_take hT rfl rfl rfl rfl (Sx.x_assign hT rfl rfl) ?_
                          clear hT; intro a hT
                          replace hT := hT.keep [21, 20, 139, 19, 18, 135, 17, 15, 104, 14, 99, 13, 65, 12, 11, 57, 45, 10, 8, 7, 25, 0, 1, 2] rfl
                          refine Sx.ser_nil ?_
                          refine Sx.then_normal (hK48 _ _ ?_)
                          clear hK48
                          refine wp_seq_k fun K49 hK49 => ?_
                          -- region 30 (law.go:96)
                          refine Sx.wp_text [(0, .take), (1, .take), (2, .take), (3, .take), (4, .take), (5, .take), (6, .run), (7, .take), (8, .take), (9, .take), (10, .take)] rfl ?_
                          refine Sx.st_take hT rfl rfl rfl rfl (Sx.x_move hT rfl rfl) ?_
                          clear hT; intro a hT
                          refine Sx.st_take hT rfl rfl rfl rfl (Sx.x_move hT rfl rfl) ?_
                          clear hT; intro a hT
                          -- guard (30, 1)
                          refine Sx.Sl.two hT 153 rfl (fun hc50 hT => ?_) (fun hc50 hT => ?_)
                          · try simp only [decide_eq_true_eq, decide_eq_false_iff_not, Bool.not_eq_true', Bool.not_eq_false', Bool.not_eq_true, Bool.not_eq_false, Bool.and_eq_true, Bool.or_eq_false_iff, beq_iff_eq, bne_iff_ne, Int.not_lt, Int.not_le, ne_eq] at hc50
                            have hmv : mt = true := hc50
                            refine Sx.st_skip hT rfl rfl rfl rfl ?_
                            clear hT; intro a hT
                            refine Sx.st_skip hT rfl rfl rfl rfl ?_
                            clear hT; intro a hT
                            refine Sx.st_skip hT rfl rfl rfl rfl ?_
                            clear hT; intro a hT
                            refine Sx.st_skip hT rfl rfl rfl rfl ?_
                            clear hT; intro a hT
                            refine Sx.st_runskip hT rfl rfl rfl rfl ?_
                            clear hT; intro a hT
                            refine Sx.st_skip hT rfl rfl rfl rfl ?_
                            clear hT; intro a hT
                            refine Sx.st_skip hT rfl rfl rfl rfl ?_
                            clear hT; intro a hT
                            refine Sx.st_take hT rfl rfl rfl rfl (Sx.x_pick_t hT rfl rfl rfl) ?_
                            clear hT; intro a hT
                            refine Sx.st_take hT rfl rfl rfl rfl (Sx.x_assign hT rfl rfl) ?_
                            clear hT; intro a hT
                            replace hT := hT.keep [18, 21, 20, 139, 19, 135, 17, 15, 104, 14, 99, 13, 65, 12, 11, 57, 45, 10, 8, 7, 25, 0, 1, 2] rfl
                            refine Sx.ser_nil ?_
                            refine Sx.then_normal (hK49 _ _ ?_)
                            clear hK49
                            refine wp_seq_k fun K51 hK51 => ?_
                            refine wp_seq_k fun K52 hK52 => ?_
                            -- region 31 (law.go:97)
                            refine Sx.wp_draws (fun u => Sx.Ext (Sx.No) u) [(0, .take), (1, .take), (2, .take), (3, .held), (4, .take), (5, .take), (6, .take), (7, .held), (8, .run), (9, .take), (10, .take)] (by kernel_rfl) (by kernel_rfl) (fun u E _ => ?_)
                            replace H := H.pure E; clear E
                            have hH : Sx.Ext (Sx.No) u u := Sx.Ext.refl _ _
                            have Hu := H
                            refine Sx.st_take hT rfl rfl rfl rfl (Sx.x_move hT rfl rfl) ?_
                            clear hT; intro a hT
                            refine Sx.st_take hT rfl rfl rfl rfl (Sx.x_not hT rfl rfl) ?_
                            clear hT; intro a hT
                            refine Sx.st_take hT rfl rfl rfl rfl (Sx.x_move hT rfl rfl) ?_
                            clear hT; intro a hT
                            -- guard (31, 2)
                            refine Sx.Sl.two hT 164 rfl (fun hc53 hT => ?_) (fun hc53 hT => ?_)
                            · exfalso
                              try simp only [decide_eq_true_eq, decide_eq_false_iff_not, Bool.not_eq_true', Bool.not_eq_false', Bool.not_eq_true, Bool.not_eq_false, Bool.and_eq_true, Bool.or_eq_false_iff, beq_iff_eq, bne_iff_ne, Int.not_lt, Int.not_le, ne_eq] at hc53
                              simp at hc53
                            · try simp only [decide_eq_true_eq, decide_eq_false_iff_not, Bool.not_eq_true', Bool.not_eq_false', Bool.not_eq_true, Bool.not_eq_false, Bool.and_eq_true, Bool.or_eq_false_iff, beq_iff_eq, bne_iff_ne, Int.not_lt, Int.not_le, ne_eq] at hc53
                              refine Sx.st_held hT rfl rfl rfl rfl hH (fun w' h' => Sx.y_loadS hT rfl Try.underlying56 Try.ti56 rfl ((Hu.heldB 0 rfl h' Sx.off_No).seg (k := 6) rfl) (by rfl)) ?_
                              clear hT; intro a hT
                              refine Sx.st_take hT rfl rfl rfl rfl (Sx.x_move hT rfl rfl) ?_
                              clear hT; intro a hT
                              refine Sx.st_take hT rfl rfl rfl rfl (Sx.x_move hT rfl rfl) ?_
                              clear hT; intro a hT
                              refine Sx.st_take hT rfl rfl rfl rfl (Sx.x_index (k := k) hT rfl Try.underlying28 Try.ti59 (H.row 2 rfl).sv rfl rfl (by first | rfl | omega) (by omega)) ?_
                              clear hT; intro a hT
                              refine Sx.st_held hT rfl rfl rfl rfl hH (fun w' h' => Sx.y_loadS hT rfl Try.underlying59 Try.ti59 rfl (((Hu.heldR 2 rfl h' Sx.off_No).ssn rfl).cs G6.len ho2) (by rfl)) ?_
                              clear hT; intro a hT
                              refine Sx.st_call hT rfl rfl rfl rfl rfl Try.can19 rfl (one_calls o2 o2 _) ?_
                              rintro _ w26 ⟨rfl, E⟩
                              refine ⟨_, rfl, ?_⟩
                              clear hT; intro a hT
                              replace H := H.pure E; clear E
                              refine Sx.st_take hT rfl rfl rfl rfl (Sx.x_not hT rfl rfl) ?_
                              clear hT; intro a hT
                              refine Sx.st_take hT rfl rfl rfl rfl (Sx.x_pick_f hT rfl rfl rfl) ?_
                              clear hT; intro a hT
                              replace hT := hT.keep [172, 18, 21, 20, 139, 19, 135, 17, 15, 104, 14, 99, 13, 65, 12, 11, 57, 45, 10, 8, 7, 25, 0, 1, 2] rfl
                              clear Hu hH
                              refine Sx.ser_calm ?_
                              refine Sx.then_normal (hK52 _ _ ?_)
                              clear hK52
                              -- cond 8
                              refine Sx.wp_if hT rfl (fun hc54 => ?_) (fun hc54 => ?_)
                              · exfalso
                                try simp only [decide_eq_true_eq, decide_eq_false_iff_not, Bool.not_eq_true', Bool.not_eq_false', Bool.not_eq_true, Bool.not_eq_false, Bool.and_eq_true, Bool.or_eq_false_iff, beq_iff_eq, bne_iff_ne, Int.not_lt, Int.not_le, ne_eq] at hc54
                                simp at hc54
                              · try simp only [decide_eq_true_eq, decide_eq_false_iff_not, Bool.not_eq_true', Bool.not_eq_false', Bool.not_eq_true, Bool.not_eq_false, Bool.and_eq_true, Bool.or_eq_false_iff, beq_iff_eq, bne_iff_ne, Int.not_lt, Int.not_le, ne_eq] at hc54
                                refine wp_skip ?_
                                refine Sx.then_normal (hK51 _ _ ?_)
                                clear hK51
                                -- region 33 (law.go:100)
                                refine Sx.wp_text [(0, .take), (1, .take), (2, .take), (3, .take), (4, .run)] rfl ?_
                                refine Sx.st_take hT rfl rfl rfl rfl (Sx.x_move hT rfl rfl) ?_
                                clear hT; intro a hT
                                refine Sx.st_take hT rfl rfl rfl rfl (Sx.x_move hT rfl rfl) ?_
                                clear hT; intro a hT
                                refine Sx.st_take hT rfl rfl rfl rfl (Sx.x_bld hT rfl Try.bld56 rfl rfl) ?_
                                clear hT; intro a hT
                                refine Sx.st_take hT rfl rfl rfl rfl (Sx.x_index hT rfl Try.underlying51 Try.ti56 (H.row 1 rfl).sv rfl rfl rfl (by omega)) ?_
                                clear hT; intro a hT
                                refine Sx.st_act hT rfl rfl rfl (Sx.x_storeRowS (k := k) (r := spG) hT rfl Try.ti56 rfl rfl G6.len G6.one rfl (H.row 1 rfl) hGl.symm (by omega)) ?_
                                rintro w27 ⟨hr, E, _⟩
                                replace H := H.setR 1 rfl hr E (fun _ hk => .inl hk) rfl; clear hr E
                                replace hT := hT.keep [172, 18, 21, 20, 139, 19, 135, 17, 15, 104, 14, 99, 13, 65, 12, 11, 57, 45, 10, 8, 7, 25, 0, 1, 2] rfl
                                refine Sx.ser_nil ?_
                                refine Sx.block_normal ?_
                                refine Sx.then_normal (hK47 _ _ ?_)
                                clear hK47
                                -- region 28 (law.go:94)
                                refine Sx.wp_text [(0, .take), (1, .take), (2, .take)] rfl ?_
                                refine Sx.st_take hT rfl rfl rfl rfl (Sx.x_move hT rfl rfl) ?_
                                clear hT; intro a hT
                                refine Sx.st_take hT rfl rfl rfl rfl ((fun w => Sx.x_add w hT rfl rfl rfl (Sx.wrap64 (by omega)))) ?_
                                clear hT; intro a hT
                                refine Sx.st_take hT rfl rfl rfl rfl (Sx.x_assign hT rfl rfl) ?_
                                clear hT; intro a hT
                                replace hT := hT.keep [19, 172, 18, 21, 20, 139, 135, 17, 15, 104, 14, 99, 13, 65, 12, 11, 57, 45, 10, 8, 7, 25, 0, 1, 2] rfl
                                refine Sx.ser_nil ?_
                                refine Sx.then_normal ?_
                                exact ⟨(k + 1, G9.set k spG, true), ⟨by show k + 1 ≤ _; omega, by show List.length (G9.set _ _) = _; rw [List.length_set, hGl], by show true = _; rw [met_snoc ho2, ← hmt, hmv]; rfl⟩, (hT.keep [19, 18, 135, 17, 15, 104, 14, 99, 13, 65, 12, 11, 57, 45, 10, 8, 7, 25, 0, 1, 2] rfl), (H.keep [1, 2, 3, 4, 5, 6, 7, 8, 9] rfl rfl), by show _ - (k + 1) < _ - k; omega⟩
                          · try simp only [decide_eq_true_eq, decide_eq_false_iff_not, Bool.not_eq_true', Bool.not_eq_false', Bool.not_eq_true, Bool.not_eq_false, Bool.and_eq_true, Bool.or_eq_false_iff, beq_iff_eq, bne_iff_ne, Int.not_lt, Int.not_le, ne_eq] at hc50
                            have hmv : mt = false := hc50
                            refine Sx.st_take hT rfl rfl rfl rfl (Sx.x_move hT rfl rfl) ?_
                            clear hT; intro a hT
                            refine Sx.st_take hT rfl rfl rfl rfl (Sx.x_move hT rfl rfl) ?_
                            clear hT; intro a hT
                            refine Sx.st_take hT rfl rfl rfl rfl (Sx.x_index (k := k) hT rfl Try.underlying28 Try.ti59 (H.row 2 rfl).sv rfl rfl (by first | rfl | omega) (by omega)) ?_
                            clear hT; intro a hT
                            refine Sx.st_take hT rfl rfl rfl rfl (Sx.x_fieldAddr hT rfl Try.fa59_0 rfl) ?_
                            clear hT; intro a hT
                            refine Sx.st_run hT rfl rfl rfl rfl (Sx.x_load1 hT rfl Try.fl9 rfl (((H.row 2 rfl).ssn rfl).cell (j := 0) G6.len ho2 rfl)) ?_
                            clear hT; intro a hT
                            refine Sx.st_take hT rfl rfl rfl rfl (Sx.x_move hT rfl rfl) ?_
                            clear hT; intro a hT
                            refine Sx.st_take hT rfl rfl rfl rfl ((fun w => Sx.x_streq w hT rfl rfl rfl)) ?_
                            clear hT; intro a hT
                            refine Sx.st_take hT rfl rfl rfl rfl (Sx.x_pick_f hT rfl rfl rfl) ?_
                            clear hT; intro a hT
                            refine Sx.st_take hT rfl rfl rfl rfl (Sx.x_assign hT rfl rfl) ?_
                            clear hT; intro a hT
                            replace hT := hT.keep [18, 21, 20, 139, 19, 135, 17, 15, 104, 14, 99, 13, 65, 12, 11, 57, 45, 10, 8, 7, 25, 0, 1, 2] rfl
                            refine Sx.ser_nil ?_
                            refine Sx.then_normal (hK49 _ _ ?_)
                            clear hK49
                            refine wp_seq_k fun K55 hK55 => ?_
                            refine wp_seq_k fun K56 hK56 => ?_
                            -- region 31 (law.go:97)
                            refine Sx.wp_draws (fun u => Sx.Ext (Sx.No) u) [(0, .take), (1, .take), (2, .take), (3, .held), (4, .take), (5, .take), (6, .take), (7, .held), (8, .run), (9, .take), (10, .take)] (by kernel_rfl) (by kernel_rfl) (fun u E _ => ?_)
                            replace H := H.pure E; clear E
                            have hH : Sx.Ext (Sx.No) u u := Sx.Ext.refl _ _
                            have Hu := H
                            refine Sx.st_take hT rfl rfl rfl rfl (Sx.x_move hT rfl rfl) ?_
                            clear hT; intro a hT
                            refine Sx.st_take hT rfl rfl rfl rfl (Sx.x_not hT rfl rfl) ?_
                            clear hT; intro a hT
                            refine Sx.st_take hT rfl rfl rfl rfl (Sx.x_move hT rfl rfl) ?_
                            clear hT; intro a hT
                            -- guard (31, 2)
                            refine Sx.Sl.two hT 164 rfl (fun hc57 hT => ?_) (fun hc57 hT => ?_)
                            · exfalso
                              try simp only [decide_eq_true_eq, decide_eq_false_iff_not, Bool.not_eq_true', Bool.not_eq_false', Bool.not_eq_true, Bool.not_eq_false, Bool.and_eq_true, Bool.or_eq_false_iff, beq_iff_eq, bne_iff_ne, Int.not_lt, Int.not_le, ne_eq] at hc57
                              simp at hc57
                            · try simp only [decide_eq_true_eq, decide_eq_false_iff_not, Bool.not_eq_true', Bool.not_eq_false', Bool.not_eq_true, Bool.not_eq_false, Bool.and_eq_true, Bool.or_eq_false_iff, beq_iff_eq, bne_iff_ne, Int.not_lt, Int.not_le, ne_eq] at hc57
                              refine Sx.st_held hT rfl rfl rfl rfl hH (fun w' h' => Sx.y_loadS hT rfl Try.underlying56 Try.ti56 rfl ((Hu.heldB 0 rfl h' Sx.off_No).seg (k := 6) rfl) (by rfl)) ?_
                              clear hT; intro a hT
                              refine Sx.st_take hT rfl rfl rfl rfl (Sx.x_move hT rfl rfl) ?_
                              clear hT; intro a hT
                              refine Sx.st_take hT rfl rfl rfl rfl (Sx.x_move hT rfl rfl) ?_
                              clear hT; intro a hT
                              refine Sx.st_take hT rfl rfl rfl rfl (Sx.x_index (k := k) hT rfl Try.underlying28 Try.ti59 (H.row 2 rfl).sv rfl rfl (by first | rfl | omega) (by omega)) ?_
                              clear hT; intro a hT
                              refine Sx.st_held hT rfl rfl rfl rfl hH (fun w' h' => Sx.y_loadS hT rfl Try.underlying59 Try.ti59 rfl (((Hu.heldR 2 rfl h' Sx.off_No).ssn rfl).cs G6.len ho2) (by rfl)) ?_
                              clear hT; intro a hT
                              refine Sx.st_call hT rfl rfl rfl rfl rfl Try.can19 rfl (one_calls o2 o2 _) ?_
                              rintro _ w28 ⟨rfl, E⟩
                              refine ⟨_, rfl, ?_⟩
                              clear hT; intro a hT
                              replace H := H.pure E; clear E
                              refine Sx.st_take hT rfl rfl rfl rfl (Sx.x_not hT rfl rfl) ?_
                              clear hT; intro a hT
                              refine Sx.st_take hT rfl rfl rfl rfl (Sx.x_pick_f hT rfl rfl rfl) ?_
                              clear hT; intro a hT
                              replace hT := hT.keep [172, 18, 21, 20, 139, 19, 135, 17, 15, 104, 14, 99, 13, 65, 12, 11, 57, 45, 10, 8, 7, 25, 0, 1, 2] rfl
                              clear Hu hH
                              refine Sx.ser_calm ?_
                              refine Sx.then_normal (hK56 _ _ ?_)
                              clear hK56
                              -- cond 8
                              refine Sx.wp_if hT rfl (fun hc58 => ?_) (fun hc58 => ?_)
                              · exfalso
                                try simp only [decide_eq_true_eq, decide_eq_false_iff_not, Bool.not_eq_true', Bool.not_eq_false', Bool.not_eq_true, Bool.not_eq_false, Bool.and_eq_true, Bool.or_eq_false_iff, beq_iff_eq, bne_iff_ne, Int.not_lt, Int.not_le, ne_eq] at hc58
                                simp at hc58
                              · try simp only [decide_eq_true_eq, decide_eq_false_iff_not, Bool.not_eq_true', Bool.not_eq_false', Bool.not_eq_true, Bool.not_eq_false, Bool.and_eq_true, Bool.or_eq_false_iff, beq_iff_eq, bne_iff_ne, Int.not_lt, Int.not_le, ne_eq] at hc58
                                refine wp_skip ?_
                                refine Sx.then_normal (hK55 _ _ ?_)
                                clear hK55
                                -- region 33 (law.go:100)
                                refine Sx.wp_text [(0, .take), (1, .take), (2, .take), (3, .take), (4, .run)] rfl ?_
                                refine Sx.st_take hT rfl rfl rfl rfl (Sx.x_move hT rfl rfl) ?_
                                clear hT; intro a hT
                                refine Sx.st_take hT rfl rfl rfl rfl (Sx.x_move hT rfl rfl) ?_
                                clear hT; intro a hT
                                refine Sx.st_take hT rfl rfl rfl rfl (Sx.x_bld hT rfl Try.bld56 rfl rfl) ?_
                                clear hT; intro a hT
                                refine Sx.st_take hT rfl rfl rfl rfl (Sx.x_index hT rfl Try.underlying51 Try.ti56 (H.row 1 rfl).sv rfl rfl rfl (by omega)) ?_
                                clear hT; intro a hT
                                refine Sx.st_act hT rfl rfl rfl (Sx.x_storeRowS (k := k) (r := spG) hT rfl Try.ti56 rfl rfl G6.len G6.one rfl (H.row 1 rfl) hGl.symm (by omega)) ?_
                                rintro w29 ⟨hr, E, _⟩
                                replace H := H.setR 1 rfl hr E (fun _ hk => .inl hk) rfl; clear hr E
                                replace hT := hT.keep [172, 18, 21, 20, 139, 19, 135, 17, 15, 104, 14, 99, 13, 65, 12, 11, 57, 45, 10, 8, 7, 25, 0, 1, 2] rfl
                                refine Sx.ser_nil ?_
                                refine Sx.block_normal ?_
                                refine Sx.then_normal (hK47 _ _ ?_)
                                clear hK47
                                -- region 28 (law.go:94)
                                refine Sx.wp_text [(0, .take), (1, .take), (2, .take)] rfl ?_
                                refine Sx.st_take hT rfl rfl rfl rfl (Sx.x_move hT rfl rfl) ?_
                                clear hT; intro a hT
                                refine Sx.st_take hT rfl rfl rfl rfl ((fun w => Sx.x_add w hT rfl rfl rfl (Sx.wrap64 (by omega)))) ?_
                                clear hT; intro a hT
                                refine Sx.st_take hT rfl rfl rfl rfl (Sx.x_assign hT rfl rfl) ?_
                                clear hT; intro a hT
                                replace hT := hT.keep [19, 172, 18, 21, 20, 139, 135, 17, 15, 104, 14, 99, 13, 65, 12, 11, 57, 45, 10, 8, 7, 25, 0, 1, 2] rfl
                                refine Sx.ser_nil ?_
                                refine Sx.then_normal ?_
                                exact ⟨(k + 1, G9.set k spG, decide (o2.name = nm)), ⟨by show k + 1 ≤ _; omega, by show List.length (G9.set _ _) = _; rw [List.length_set, hGl], by show decide _ = _; rw [met_snoc ho2, ← hmt, hmv]; rfl⟩, (hT.keep [19, 18, 135, 17, 15, 104, 14, 99, 13, 65, 12, 11, 57, 45, 10, 8, 7, 25, 0, 1, 2] rfl), (H.keep [1, 2, 3, 4, 5, 6, 7, 8, 9] rfl rfl), by show _ - (k + 1) < _ - k; omega⟩
                        · try simp only [decide_eq_true_eq, decide_eq_false_iff_not, Bool.not_eq_true', Bool.not_eq_false', Bool.not_eq_true, Bool.not_eq_false, Bool.and_eq_true, Bool.or_eq_false_iff, beq_iff_eq, bne_iff_ne, Int.not_lt, Int.not_le, ne_eq] at hc46
                          have hkG : k = (groupsF m L2).length := by omega
                          refine wp_exit ?_
                          refine Sx.then_exit ?_
                          refine Sx.then_exit ?_
                          refine Sx.block_exit ?_
                          refine Sx.then_normal (hK42 _ _ ?_)
                          clear hK42
                          refine wp_seq_k fun K59 hK59 => ?_
                          -- region 34 (law.go:102)
                          refine Sx.wp_text [(0, .take), (1, .take), (2, .run), (3, .take), (4, .take), (5, .take), (6, .run), (7, .run), (8, .take)] rfl ?_
                          refine Sx.st_take hT rfl rfl rfl rfl (Sx.x_move hT rfl rfl) ?_
                          clear hT; intro a hT
                          refine Sx.st_take hT rfl rfl rfl rfl (Sx.x_move hT rfl rfl) ?_
                          clear hT; intro a hT
                          refine Sx.st_call hT rfl rfl rfl rfl rfl Try.can18 rfl (Group_calls nm (H.blk 5 rfl) (H.mp 6 rfl) hG2.srt (by omega) hm2 hkb) ?_
                          rintro _ w30 ⟨rfl, E⟩
                          refine ⟨_, rfl, ?_⟩
                          clear hT; intro a hT
                          replace H := H.pure E; clear E
                          obtain ⟨fo, hfo⟩ : ∃ o, gfind (groupsF m L2) nm = o := ⟨_, rfl⟩
                          rw [hfo] at hT
                          have hfm : fo.isSome = mt := by rw [← hfo, find_met, hmt, hkG, List.take_length]
                          refine Sx.st_take hT rfl rfl rfl rfl (Sx.x_move hT rfl rfl) ?_
                          clear hT; intro a hT
                          refine Sx.st_take hT rfl rfl rfl rfl (Sx.x_extractL hT rfl rfl rfl) ?_
                          clear hT; intro a hT
                          refine Sx.st_take hT rfl rfl rfl rfl (Sx.x_extractL hT rfl rfl rfl) ?_
                          clear hT; intro a hT
                          refine Sx.st_eff hT rfl rfl rfl rfl (Sx.y_alloc hT rfl Try.ti56 rfl _) ?_
                          clear hT; rintro _ w31 ⟨b4, rfl, N⟩ a hT
                          replace H := H.new N; clear N
                          refine Sx.st_act hT rfl rfl rfl (Sx.y_storeS hT rfl Try.ti56 rfl rfl rfl rfl rfl (H.blk 0 rfl) rfl) ?_
                          rintro w32 ⟨hb, E, _⟩
                          replace H := H.setB 0 rfl hb E rfl; clear hb E
                          refine Sx.st_take hT rfl rfl rfl rfl (Sx.x_assign hT rfl rfl) ?_
                          clear hT; intro a hT
                          replace hT := hT.keep [23, 22, 139, 19, 18, 135, 17, 15, 104, 14, 99, 13, 65, 12, 11, 57, 45, 10, 8, 7, 25, 0, 1, 2] rfl
                          refine Sx.ser_nil ?_
                          refine Sx.then_normal (hK59 _ _ ?_)
                          clear hK59
                          refine wp_seq_k fun K60 hK60 => ?_
                          -- region 35 (law.go:103)
                          refine Sx.wp_text [(0, .take), (1, .take), (2, .take), (3, .take), (4, .take), (5, .take), (6, .take), (7, .run), (8, .take), (9, .run), (10, .take), (11, .take), (12, .take), (13, .take), (14, .take), (15, .run), (16, .take), (17, .run), (18, .take), (19, .take)] rfl ?_
                          refine Sx.st_take hT rfl rfl rfl rfl (Sx.x_move hT rfl rfl) ?_
                          clear hT; intro a hT
                          refine Sx.st_take hT rfl rfl rfl rfl (Sx.x_move hT rfl rfl) ?_
                          clear hT; intro a hT
                          refine Sx.st_take hT rfl rfl rfl rfl (Sx.x_neb hT rfl Try.underlying4 rfl rfl) ?_
                          clear hT; intro a hT
                          refine Sx.st_take hT rfl rfl rfl rfl (Sx.x_move hT rfl rfl) ?_
                          clear hT; intro a hT
                          -- guard (35, 3)
                          refine Sx.Sl.two hT 186 rfl (fun hc61 hT => ?_) (fun hc61 hT => ?_)
                          · exfalso
                            try simp only [decide_eq_true_eq, decide_eq_false_iff_not, Bool.not_eq_true', Bool.not_eq_false', Bool.not_eq_true, Bool.not_eq_false, Bool.and_eq_true, Bool.or_eq_false_iff, beq_iff_eq, bne_iff_ne, Int.not_lt, Int.not_le, ne_eq] at hc61
                            simp [hfm] at hc61
                          · try simp only [decide_eq_true_eq, decide_eq_false_iff_not, Bool.not_eq_true', Bool.not_eq_false', Bool.not_eq_true, Bool.not_eq_false, Bool.and_eq_true, Bool.or_eq_false_iff, beq_iff_eq, bne_iff_ne, Int.not_lt, Int.not_le, ne_eq] at hc61
                            refine Sx.st_take hT rfl rfl rfl rfl (Sx.x_move hT rfl rfl) ?_
                            clear hT; intro a hT
                            refine Sx.st_take hT rfl rfl rfl rfl (Sx.x_not hT rfl rfl) ?_
                            clear hT; intro a hT
                            refine Sx.st_take hT rfl rfl rfl rfl (Sx.x_move hT rfl rfl) ?_
                            clear hT; intro a hT
                            -- guard (35, 6)
                            refine Sx.Sl.two hT 189 rfl (fun hc62 hT => ?_) (fun hc62 hT => ?_)
                            · try simp only [decide_eq_true_eq, decide_eq_false_iff_not, Bool.not_eq_true', Bool.not_eq_false', Bool.not_eq_true, Bool.not_eq_false, Bool.and_eq_true, Bool.or_eq_false_iff, beq_iff_eq, bne_iff_ne, Int.not_lt, Int.not_le, ne_eq] at hc62
                              obtain rfl : fo = none := by simpa using hc62
                              refine Sx.st_run hT rfl rfl rfl rfl (Sx.y_loadS hT rfl Try.underlying56 Try.ti56 rfl ((H.blk 0 rfl).seg (k := 6) rfl) (by rfl)) ?_
                              clear hT; intro a hT
                              refine Sx.st_take hT rfl rfl rfl rfl (Sx.x_bld hT rfl Try.bld59 rfl rfl) ?_
                              clear hT; intro a hT
                              refine Sx.st_call hT rfl rfl rfl rfl rfl Try.can19 rfl (one_calls gz6 gz6 _) ?_
                              rintro _ w33 ⟨rfl, E⟩
                              refine ⟨_, rfl, ?_⟩
                              clear hT; intro a hT
                              replace H := H.pure E; clear E
                              refine Sx.st_take hT rfl rfl rfl rfl (Sx.x_not hT rfl rfl) ?_
                              clear hT; intro a hT
                              refine Sx.st_take hT rfl rfl rfl rfl (Sx.x_pick_t hT rfl rfl rfl) ?_
                              clear hT; intro a hT
                              refine Sx.st_take hT rfl rfl rfl rfl (Sx.x_pick_f hT rfl rfl rfl) ?_
                              clear hT; intro a hT
                              refine Sx.st_take hT rfl rfl rfl rfl (Sx.x_move hT rfl rfl) ?_
                              clear hT; intro a hT
                              -- guard (35, 13)
                              refine Sx.Sl.two hT 196 rfl (fun hc63 hT => ?_) (fun hc63 hT => ?_)
                              · exfalso
                                try simp only [decide_eq_true_eq, decide_eq_false_iff_not, Bool.not_eq_true', Bool.not_eq_false', Bool.not_eq_true, Bool.not_eq_false, Bool.and_eq_true, Bool.or_eq_false_iff, beq_iff_eq, bne_iff_ne, Int.not_lt, Int.not_le, ne_eq] at hc63
                                simp at hc63
                              · try simp only [decide_eq_true_eq, decide_eq_false_iff_not, Bool.not_eq_true', Bool.not_eq_false', Bool.not_eq_true, Bool.not_eq_false, Bool.and_eq_true, Bool.or_eq_false_iff, beq_iff_eq, bne_iff_ne, Int.not_lt, Int.not_le, ne_eq] at hc63
                                refine Sx.st_take hT rfl rfl rfl rfl (Sx.x_move hT rfl rfl) ?_
                                clear hT; intro a hT
                                refine Sx.st_call hT rfl rfl rfl rfl rfl Try.can15 rfl (Groups_calls (H.blk 6 rfl) (H.mp 7 rfl) hG2.srt (by omega) hm2 hkb) ?_
                                rintro _ w34 ⟨adh, ch, rfl, K⟩
                                refine ⟨_, rfl, ?_⟩
                                clear hT; intro a hT
                                replace H := H.more K rfl; clear K
                                refine Sx.st_take hT rfl rfl rfl rfl (Sx.x_move hT rfl rfl) ?_
                                clear hT; intro a hT
                                refine Sx.st_call hT rfl rfl rfl rfl rfl Try.can16 rfl (sameG_calls (groupsF m L2) (groupsF m L2) ((H.row 0 rfl).ssn rfl) ((H.row 3 rfl).ssn rfl) (by omega)) ?_
                                rintro _ w35 ⟨rfl, E⟩
                                refine ⟨_, rfl, ?_⟩
                                clear hT; intro a hT
                                replace H := H.pure E; clear E
                                refine Sx.st_take hT rfl rfl rfl rfl (Sx.x_not hT rfl rfl) ?_
                                clear hT; intro a hT
                                refine Sx.st_take hT rfl rfl rfl rfl (Sx.x_pick_f hT rfl rfl rfl) ?_
                                clear hT; intro a hT
                                replace hT := hT.keep [202, 23, 22, 139, 19, 18, 135, 17, 15, 104, 14, 99, 13, 65, 12, 11, 57, 45, 10, 8, 7, 25, 0, 1, 2] rfl
                                refine Sx.ser_nil ?_
                                refine Sx.then_normal (hK60 _ _ ?_)
                                clear hK60
                                -- cond 9
                                refine Sx.wp_if hT rfl (fun hc64 => ?_) (fun hc64 => ?_)
                                · exfalso
                                  try simp only [decide_eq_true_eq, decide_eq_false_iff_not, Bool.not_eq_true', Bool.not_eq_false', Bool.not_eq_true, Bool.not_eq_false, Bool.and_eq_true, Bool.or_eq_false_iff, beq_iff_eq, bne_iff_ne, Int.not_lt, Int.not_le, ne_eq] at hc64
                                  simp at hc64
                                · try simp only [decide_eq_true_eq, decide_eq_false_iff_not, Bool.not_eq_true', Bool.not_eq_false', Bool.not_eq_true, Bool.not_eq_false, Bool.and_eq_true, Bool.or_eq_false_iff, beq_iff_eq, bne_iff_ne, Int.not_lt, Int.not_le, ne_eq] at hc64
                                  refine wp_skip ?_
                                  refine Sx.block_normal ?_
                                  refine Sx.then_normal (hK22 _ _ ?_)
                                  clear hK22
                                  -- region 12 (law.go:79)
                                  refine Sx.wp_text [(0, .take), (1, .take), (2, .take)] rfl ?_
                                  refine Sx.st_take hT rfl rfl rfl rfl (Sx.x_move hT rfl rfl) ?_
                                  clear hT; intro a hT
                                  refine Sx.st_take hT rfl rfl rfl rfl ((fun w => Sx.x_add w hT rfl rfl rfl (Sx.wrap64 (by omega)))) ?_
                                  clear hT; intro a hT
                                  refine Sx.st_take hT rfl rfl rfl rfl (Sx.x_assign hT rfl rfl) ?_
                                  clear hT; intro a hT
                                  replace hT := hT.keep [12, 202, 23, 22, 139, 19, 18, 135, 17, 15, 104, 14, 99, 13, 65, 11, 57, 45, 10, 8, 7, 25, 0, 1, 2] rfl
                                  refine Sx.ser_nil ?_
                                  refine Sx.then_normal ?_
                                  exact ⟨(i + 1, L2, h2, adq, cq), ⟨by show i + 1 ≤ _; omega, hG2, by show List.length L2 ≤ 16 * (i + 1); omega⟩, (hT.keep [12, 11, 57, 45, 10, 8, 7, 25, 0, 1, 2] rfl), (H.keep [7, 8, 5, 6, 10] rfl rfl), by show _ - (i + 1) < _ - i; omega⟩
                            · try simp only [decide_eq_true_eq, decide_eq_false_iff_not, Bool.not_eq_true', Bool.not_eq_false', Bool.not_eq_true, Bool.not_eq_false, Bool.and_eq_true, Bool.or_eq_false_iff, beq_iff_eq, bne_iff_ne, Int.not_lt, Int.not_le, ne_eq] at hc62
                              refine Sx.st_runskip hT rfl rfl rfl rfl ?_
                              clear hT; intro a hT
                              refine Sx.st_skip hT rfl rfl rfl rfl ?_
                              clear hT; intro a hT
                              refine Sx.st_runskip hT rfl rfl rfl rfl ?_
                              clear hT; intro a hT
                              refine Sx.st_skip hT rfl rfl rfl rfl ?_
                              clear hT; intro a hT
                              refine Sx.st_take hT rfl rfl rfl rfl (Sx.x_pick_f hT rfl rfl rfl) ?_
                              clear hT; intro a hT
                              refine Sx.st_take hT rfl rfl rfl rfl (Sx.x_pick_f hT rfl rfl rfl) ?_
                              clear hT; intro a hT
                              refine Sx.st_take hT rfl rfl rfl rfl (Sx.x_move hT rfl rfl) ?_
                              clear hT; intro a hT
                              refine Sx.st_take hT rfl rfl rfl rfl (Sx.x_move hT rfl rfl) ?_
                              clear hT; intro a hT
                              refine Sx.st_call hT rfl rfl rfl rfl rfl Try.can15 rfl (Groups_calls (H.blk 6 rfl) (H.mp 7 rfl) hG2.srt (by omega) hm2 hkb) ?_
                              rintro _ w36 ⟨adh, ch, rfl, K⟩
                              refine ⟨_, rfl, ?_⟩
                              clear hT; intro a hT
                              replace H := H.more K rfl; clear K
                              refine Sx.st_take hT rfl rfl rfl rfl (Sx.x_move hT rfl rfl) ?_
                              clear hT; intro a hT
                              refine Sx.st_call hT rfl rfl rfl rfl rfl Try.can16 rfl (sameG_calls (groupsF m L2) (groupsF m L2) ((H.row 0 rfl).ssn rfl) ((H.row 3 rfl).ssn rfl) (by omega)) ?_
                              rintro _ w37 ⟨rfl, E⟩
                              refine ⟨_, rfl, ?_⟩
                              clear hT; intro a hT
                              replace H := H.pure E; clear E
                              refine Sx.st_take hT rfl rfl rfl rfl (Sx.x_not hT rfl rfl) ?_
                              clear hT; intro a hT
                              refine Sx.st_take hT rfl rfl rfl rfl (Sx.x_pick_f hT rfl rfl rfl) ?_
                              clear hT; intro a hT
                              replace hT := hT.keep [202, 23, 22, 139, 19, 18, 135, 17, 15, 104, 14, 99, 13, 65, 12, 11, 57, 45, 10, 8, 7, 25, 0, 1, 2] rfl
                              refine Sx.ser_nil ?_
                              refine Sx.then_normal (hK60 _ _ ?_)
                              clear hK60
                              -- cond 9
                              refine Sx.wp_if hT rfl (fun hc65 => ?_) (fun hc65 => ?_)
                              · exfalso
                                try simp only [decide_eq_true_eq, decide_eq_false_iff_not, Bool.not_eq_true', Bool.not_eq_false', Bool.not_eq_true, Bool.not_eq_false, Bool.and_eq_true, Bool.or_eq_false_iff, beq_iff_eq, bne_iff_ne, Int.not_lt, Int.not_le, ne_eq] at hc65
                                simp at hc65
                              · try simp only [decide_eq_true_eq, decide_eq_false_iff_not, Bool.not_eq_true', Bool.not_eq_false', Bool.not_eq_true, Bool.not_eq_false, Bool.and_eq_true, Bool.or_eq_false_iff, beq_iff_eq, bne_iff_ne, Int.not_lt, Int.not_le, ne_eq] at hc65
                                refine wp_skip ?_
                                refine Sx.block_normal ?_
                                refine Sx.then_normal (hK22 _ _ ?_)
                                clear hK22
                                -- region 12 (law.go:79)
                                refine Sx.wp_text [(0, .take), (1, .take), (2, .take)] rfl ?_
                                refine Sx.st_take hT rfl rfl rfl rfl (Sx.x_move hT rfl rfl) ?_
                                clear hT; intro a hT
                                refine Sx.st_take hT rfl rfl rfl rfl ((fun w => Sx.x_add w hT rfl rfl rfl (Sx.wrap64 (by omega)))) ?_
                                clear hT; intro a hT
                                refine Sx.st_take hT rfl rfl rfl rfl (Sx.x_assign hT rfl rfl) ?_
                                clear hT; intro a hT
                                replace hT := hT.keep [12, 202, 23, 22, 139, 19, 18, 135, 17, 15, 104, 14, 99, 13, 65, 11, 57, 45, 10, 8, 7, 25, 0, 1, 2] rfl
                                refine Sx.ser_nil ?_
                                refine Sx.then_normal ?_
                                exact ⟨(i + 1, L2, h2, adq, cq), ⟨by show i + 1 ≤ _; omega, hG2, by show List.length L2 ≤ 16 * (i + 1); omega⟩, (hT.keep [12, 11, 57, 45, 10, 8, 7, 25, 0, 1, 2] rfl), (H.keep [7, 8, 5, 6, 10] rfl rfl), by show _ - (i + 1) < _ - i; omega⟩
            · try simp only [decide_eq_true_eq, decide_eq_false_iff_not, Bool.not_eq_true', Bool.not_eq_false', Bool.not_eq_true, Bool.not_eq_false, Bool.and_eq_true, Bool.or_eq_false_iff, beq_iff_eq, bne_iff_ne, Int.not_lt, Int.not_le, ne_eq] at hc21
              refine wp_exit ?_
              refine Sx.then_exit ?_
              refine Sx.then_exit ?_
              refine Sx.block_exit ?_
              refine Sx.then_normal (hK17 _ _ ?_)
              clear hK17
              refine wp_seq_k fun K66 hK66 => ?_
              -- region 37 (law.go:107)
              refine Sx.wp_text [(0, .run), (1, .take)] rfl ?_
              refine Sx.st_call hT rfl rfl rfl rfl rfl Try.can7 rfl (first_calls _) ?_
              rintro _ w38 ⟨rfl, E⟩
              refine ⟨_, rfl, ?_⟩
              clear hT; intro a hT
              replace H := H.pure E; clear E
              refine Sx.st_take hT rfl rfl rfl rfl (Sx.x_assign hT rfl rfl) ?_
              clear hT; intro a hT
              replace hT := hT.keep [6, 65, 12, 11, 57, 45, 10, 8, 7, 25, 0, 1, 2] rfl
              refine Sx.ser_nil ?_
              refine Sx.then_normal (hK66 _ _ ?_)
              clear hK66
              refine wp_ret ?_
              refine Sx.done1 (fn := Try.f3) hT rfl (.tmp (hT.get 6 _ rfl)) ?_
              exact ⟨ret_b (by simp), H.ext⟩
  · skip
    -- region 3 (law.go:70)
    refine Sx.wp_text [(0, .take), (1, .run), (2, .take), (3, .take), (4, .take), (5, .take), (6, .take)] rfl ?_
    refine Sx.st_take hT rfl rfl rfl rfl (Sx.x_move hT rfl rfl) ?_
    clear hT; intro a hT
    refine Sx.st_call hT rfl rfl rfl rfl rfl Try.can8 rfl (New_no cut hcu _) ?_
    rintro _ w39 ⟨rfl, E⟩
    refine ⟨_, rfl, ?_⟩
    clear hT; intro a hT
    replace H := H.pure E; clear E
    refine Sx.st_take hT rfl rfl rfl rfl (Sx.x_move hT rfl rfl) ?_
    clear hT; intro a hT
    refine Sx.st_take hT rfl rfl rfl rfl (Sx.x_extractL hT rfl rfl rfl) ?_
    clear hT; intro a hT
    refine Sx.st_take hT rfl rfl rfl rfl (Sx.x_extractL hT rfl rfl rfl) ?_
    clear hT; intro a hT
    refine Sx.st_take hT rfl rfl rfl rfl (Sx.x_assign hT rfl rfl) ?_
    clear hT; intro a hT
    refine Sx.st_take hT rfl rfl rfl rfl (Sx.x_assign hT rfl rfl) ?_
    clear hT; intro a hT
    replace hT := hT.keep [8, 7, 25, 6, 0, 1, 2] rfl
    refine Sx.ser_nil ?_
    refine Sx.then_normal (hK4 _ _ ?_)
    clear hK4
    refine wp_seq_k fun K67 hK67 => ?_
    -- region 4 (law.go:71)
    refine Sx.wp_text [(0, .take), (1, .run), (2, .take), (3, .take), (4, .take), (5, .take), (6, .take)] rfl ?_
    refine Sx.st_take hT rfl rfl rfl rfl (Sx.x_move hT rfl rfl) ?_
    clear hT; intro a hT
    refine Sx.st_call hT rfl rfl rfl rfl rfl Try.can9 rfl (xOf_calls [] (Ss.nil _ Wt.cells 4) cut (by decide) (by simp)) ?_
    rintro _ w40 ⟨ad8, c8, rfl, K⟩
    refine ⟨_, rfl, ?_⟩
    clear hT; intro a hT
    replace H := H.more K rfl; clear K
    rw [ofE_nil, if_pos (by omega)] at hT
    refine Sx.st_take hT rfl rfl rfl rfl (Sx.x_move hT rfl rfl) ?_
    clear hT; intro a hT
    refine Sx.st_take hT rfl rfl rfl rfl (Sx.x_extractL hT rfl rfl rfl) ?_
    clear hT; intro a hT
    refine Sx.st_take hT rfl rfl rfl rfl (Sx.x_extractL hT rfl rfl rfl) ?_
    clear hT; intro a hT
    refine Sx.st_take hT rfl rfl rfl rfl (Sx.x_assign hT rfl rfl) ?_
    clear hT; intro a hT
    refine Sx.st_take hT rfl rfl rfl rfl (Sx.x_assign hT rfl rfl) ?_
    clear hT; intro a hT
    replace hT := hT.keep [10, 8, 7, 25, 6, 0, 1, 2] rfl
    refine Sx.ser_nil ?_
    refine Sx.then_normal (hK67 _ _ ?_)
    clear hK67
    refine wp_seq_k fun K68 hK68 => ?_
    refine wp_seq_k fun K69 hK69 => ?_
    -- region 5 (law.go:72)
    refine Sx.wp_text [(0, .take), (1, .take), (2, .take), (3, .take), (4, .take), (5, .take), (6, .take), (7, .take), (8, .take), (9, .take)] rfl ?_
    refine Sx.st_take hT rfl rfl rfl rfl (Sx.x_move hT rfl rfl) ?_
    clear hT; intro a hT
    refine Sx.st_take hT rfl rfl rfl rfl (Sx.x_move hT rfl rfl) ?_
    clear hT; intro a hT
    refine Sx.st_take hT rfl rfl rfl rfl ((fun w => Sx.x_ne w hT rfl rfl rfl)) ?_
    clear hT; intro a hT
    refine Sx.st_take hT rfl rfl rfl rfl (Sx.x_move hT rfl rfl) ?_
    clear hT; intro a hT
    -- guard (5, 3)
    refine Sx.Sl.two hT 39 rfl (fun hc70 hT => ?_) (fun hc70 hT => ?_)
    · exfalso
      try simp only [decide_eq_true_eq, decide_eq_false_iff_not, Bool.not_eq_true', Bool.not_eq_false', Bool.not_eq_true, Bool.not_eq_false, Bool.and_eq_true, Bool.or_eq_false_iff, beq_iff_eq, bne_iff_ne, Int.not_lt, Int.not_le, ne_eq] at hc70
      simp at hc70
    · try simp only [decide_eq_true_eq, decide_eq_false_iff_not, Bool.not_eq_true', Bool.not_eq_false', Bool.not_eq_true, Bool.not_eq_false, Bool.and_eq_true, Bool.or_eq_false_iff, beq_iff_eq, bne_iff_ne, Int.not_lt, Int.not_le, ne_eq] at hc70
      refine Sx.st_take hT rfl rfl rfl rfl (Sx.x_move hT rfl rfl) ?_
      clear hT; intro a hT
      refine Sx.st_take hT rfl rfl rfl rfl (Sx.x_eqnil_none hT rfl Try.underlying24 rfl rfl) ?_
      clear hT; intro a hT
      refine Sx.st_take hT rfl rfl rfl rfl (Sx.x_move hT rfl rfl) ?_
      clear hT; intro a hT
      refine Sx.st_take hT rfl rfl rfl rfl ((fun w => Sx.x_ne w hT rfl rfl rfl)) ?_
      clear hT; intro a hT
      refine Sx.st_take hT rfl rfl rfl rfl (Sx.x_neb hT rfl Try.underlying4 rfl rfl) ?_
      clear hT; intro a hT
      refine Sx.st_take hT rfl rfl rfl rfl (Sx.x_pick_f hT rfl rfl rfl) ?_
      clear hT; intro a hT
      replace hT := hT.keep [45, 10, 8, 7, 25, 6, 0, 1, 2] rfl
      refine Sx.ser_nil ?_
      refine Sx.then_normal (hK69 _ _ ?_)
      clear hK69
      -- cond 1
      refine Sx.wp_if hT rfl (fun hc71 => ?_) (fun hc71 => ?_)
      · exfalso
        try simp only [decide_eq_true_eq, decide_eq_false_iff_not, Bool.not_eq_true', Bool.not_eq_false', Bool.not_eq_true, Bool.not_eq_false, Bool.and_eq_true, Bool.or_eq_false_iff, beq_iff_eq, bne_iff_ne, Int.not_lt, Int.not_le, ne_eq] at hc71
        simp at hc71
      · try simp only [decide_eq_true_eq, decide_eq_false_iff_not, Bool.not_eq_true', Bool.not_eq_false', Bool.not_eq_true, Bool.not_eq_false, Bool.and_eq_true, Bool.or_eq_false_iff, beq_iff_eq, bne_iff_ne, Int.not_lt, Int.not_le, ne_eq] at hc71
        refine wp_skip ?_
        refine Sx.then_normal (hK68 _ _ ?_)
        clear hK68
        refine wp_seq_k fun K72 hK72 => ?_
        refine wp_seq_k fun K73 hK73 => ?_
        -- region 7 (law.go:75)
        refine Sx.wp_text [(0, .take), (1, .take), (2, .take), (3, .take), (4, .run), (5, .take), (6, .take), (7, .take), (8, .take), (9, .take), (10, .take), (11, .take)] rfl ?_
        refine Sx.st_take hT rfl rfl rfl rfl (Sx.x_move hT rfl rfl) ?_
        clear hT; intro a hT
        refine Sx.st_take hT rfl rfl rfl rfl (Sx.x_eqnil_none hT rfl Try.underlying24 rfl rfl) ?_
        clear hT; intro a hT
        refine Sx.st_take hT rfl rfl rfl rfl (Sx.x_move hT rfl rfl) ?_
        clear hT; intro a hT
        refine Sx.st_skip hT rfl rfl rfl rfl ?_
        clear hT; intro a hT
        refine Sx.st_runskip hT rfl rfl rfl rfl ?_
        clear hT; intro a hT
        refine Sx.st_skip hT rfl rfl rfl rfl ?_
        clear hT; intro a hT
        refine Sx.st_take hT rfl rfl rfl rfl (Sx.x_pick_t hT rfl rfl rfl) ?_
        clear hT; intro a hT
        refine Sx.st_take hT rfl rfl rfl rfl (Sx.x_move hT rfl rfl) ?_
        clear hT; intro a hT
        refine Sx.st_skip hT rfl rfl rfl rfl ?_
        clear hT; intro a hT
        refine Sx.st_skip hT rfl rfl rfl rfl ?_
        clear hT; intro a hT
        refine Sx.st_skip hT rfl rfl rfl rfl ?_
        clear hT; intro a hT
        refine Sx.st_take hT rfl rfl rfl rfl (Sx.x_pick_t hT rfl rfl rfl) ?_
        clear hT; intro a hT
        replace hT := hT.keep [57, 45, 10, 8, 7, 25, 6, 0, 1, 2] rfl
        refine Sx.ser_nil ?_
        refine Sx.then_normal (hK73 _ _ ?_)
        clear hK73
        refine Sx.wp_if hT rfl (fun _ => ?_) (fun h => by cases h)
        refine wp_seq_k fun K74 hK74 => ?_
        -- region 8 (law.go:76)
        refine Sx.wp_text [(0, .run), (1, .take)] rfl ?_
        refine Sx.st_call hT rfl rfl rfl rfl rfl Try.can7 rfl (first_calls _) ?_
        rintro _ w41 ⟨rfl, E⟩
        refine ⟨_, rfl, ?_⟩
        clear hT; intro a hT
        replace H := H.pure E; clear E
        refine Sx.st_take hT rfl rfl rfl rfl (Sx.x_assign hT rfl rfl) ?_
        clear hT; intro a hT
        replace hT := hT.keep [6, 57, 45, 10, 8, 7, 25, 0, 1, 2] rfl
        refine Sx.ser_nil ?_
        refine Sx.then_normal (hK74 _ _ ?_)
        clear hK74
        refine wp_ret ?_
        refine Sx.then_ret ?_
        refine Sx.done1 (fn := Try.f3) hT rfl (.tmp (hT.get 6 _ rfl)) ?_
        exact ⟨ret_b (by simp), H.ext⟩

end Go.Proofs.Ytakjfnckbidbcaa
