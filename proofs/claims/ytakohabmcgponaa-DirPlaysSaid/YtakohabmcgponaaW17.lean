/- Walks: the document's groups. -/
import Derived.Test.YtakohabmcgponaaW16
set_option linter.unusedSimpArgs false
set_option linter.unusedVariables false
namespace Go.Proofs.Ytakohabmcgponaa
open Sx
theorem Try.ti64 : Sx.TI Try.prog 64 (.agg #[.slice none 0 0]) 1 24 := .mk' (by kernel_rfl)
theorem Try.ti88 : Sx.TI Try.prog 88 (.agg #[.int .i64 0, .int .i64 0, .float .f64 0, .float .f64 0, .slice none 0 0]) 5 56 := .mk' (by kernel_rfl)
theorem Try.fl25 : Sx.Flat Try.prog 25 := ⟨_, Try.underlying25, trivial⟩
theorem Try.fa88_0 : Sx.FA Try.prog 88 0 0 := ⟨_, _, _, _, _, Try.underlying88, rfl, rfl, Try.ti37, by decide⟩
theorem Try.fa88_1 : Sx.FA Try.prog 88 1 4 := ⟨_, _, _, _, _, Try.underlying88, rfl, rfl, Try.ti25, by decide⟩
theorem Try.bld64 : Sx.Bld Try.prog 64 #[.slice none 0 0] #[(0, 1)] := ⟨_, _, _, _, Try.ti64, rfl, Try.underlying64, fun w => by simp [Sx.placesOf, Sx.run_sizeOf Try.ti28]⟩
theorem Try.bld88 : Sx.Bld Try.prog 88 #[.int .i64 0, .int .i64 0, .float .f64 0, .float .f64 0, .slice none 0 0] #[(0, 4), (4, 1)] := ⟨_, _, _, _, Try.ti88, rfl, Try.underlying88, fun w => by simp [Sx.placesOf, Sx.run_sizeOf Try.ti25, Sx.run_sizeOf Try.ti37]⟩
theorem Try.can21 : Sx.Can Try.prog 21 := ⟨_, Try.func21, by kernel_rfl, rfl⟩
theorem Try.can24 : Sx.Can Try.prog 24 := ⟨_, Try.func24, by kernel_rfl, rfl⟩
theorem New14_yes {ad : Option Addr} {c : Nat} (l : List Rg) {w : World} (hs : Ss w ad Rg.cells 4 l) (hl : l.length ≤ 1000000) (hcap : l.length ≤ c) (hw : ∀ r ∈ l, r.wf) (hk : checkF l = 0) : Calls Try.prog 21 #[.slice ad l.length c] w fun e w' => ∃ p ad' c', e = .returned (.tuple #[.pointer (some ⟨p, 0, none⟩), .int .i64 0]) ∧ Hp w No w' [cB p [.slice ad' (learnR [] l).1.length c'] 64, cR 37 4 ad' (learnR [] l).1.length c' ((learnR [] l).1.flatMap Rg.cells)] := by
  have R : Ro w No _ := Ro.of fun w' x => hs.ext_no x
  refine Sx.calls_into Try.func21 rfl Try.ntmps21 rfl fun a hT => ?_
  replace hT := hT.keep [0] rfl
  have H : Sx.Hp w (Sx.No) w [] := Sx.Hp.start _ _
  refine wp_seq_k fun K1 hK1 => ?_
  -- region 0 (ref.go:32)
  refine Sx.wp_text [(0, .take), (1, .take)] rfl ?_
  refine Sx.st_take hT rfl rfl rfl rfl (Sx.x_assign hT rfl rfl) ?_
  clear hT; intro a hT
  refine Sx.st_take hT rfl rfl rfl rfl (Sx.x_assign hT rfl rfl) ?_
  clear hT; intro a hT
  replace hT := hT.keep [3, 2, 0] rfl
  refine Sx.ser_nil ?_
  refine Sx.then_normal (hK1 _ _ ?_)
  clear hK1
  refine wp_seq_k fun K2 hK2 => ?_
  -- region 1 (ref.go:33)
  refine Sx.wp_text [(0, .take), (1, .run), (2, .take)] rfl ?_
  refine Sx.st_take hT rfl rfl rfl rfl (Sx.x_move hT rfl rfl) ?_
  clear hT; intro a hT
  refine Sx.st_call hT rfl rfl rfl rfl rfl Try.can16 rfl (Check4_calls l (R.at H.ext) hl hcap hw) ?_
  rintro _ w1 ⟨rfl, E⟩
  refine ⟨_, rfl, ?_⟩
  clear hT; intro a hT
  replace H := H.pure E; clear E
  refine Sx.st_take hT rfl rfl rfl rfl (Sx.x_assign hT rfl rfl) ?_
  clear hT; intro a hT
  replace hT := hT.keep [4, 3, 2, 0] rfl
  refine Sx.ser_nil ?_
  refine Sx.then_normal (hK2 _ _ ?_)
  clear hK2
  refine wp_seq_k fun K3 hK3 => ?_
  refine wp_seq_k fun K4 hK4 => ?_
  -- region 2 (ref.go:34)
  refine Sx.wp_text [(0, .take), (1, .take)] rfl ?_
  refine Sx.st_take hT rfl rfl rfl rfl (Sx.x_move hT rfl rfl) ?_
  clear hT; intro a hT
  refine Sx.st_take hT rfl rfl rfl rfl ((fun w => Sx.x_ne w hT rfl rfl rfl)) ?_
  clear hT; intro a hT
  replace hT := hT.keep [10, 4, 3, 2, 0] rfl
  refine Sx.ser_nil ?_
  refine Sx.then_normal (hK4 _ _ ?_)
  clear hK4
  -- cond 0
  refine Sx.wp_if hT rfl (fun hc5 => ?_) (fun hc5 => ?_)
  · exfalso
    try simp only [decide_eq_true_eq, decide_eq_false_iff_not, Bool.not_eq_true', Bool.not_eq_false', Bool.not_eq_true, Bool.not_eq_false, Bool.and_eq_true, Bool.or_eq_false_iff, beq_iff_eq, bne_iff_ne, Int.not_lt, Int.not_le, ne_eq] at hc5
    exact hc5 hk
  · try simp only [decide_eq_true_eq, decide_eq_false_iff_not, Bool.not_eq_true', Bool.not_eq_false', Bool.not_eq_true, Bool.not_eq_false, Bool.and_eq_true, Bool.or_eq_false_iff, beq_iff_eq, bne_iff_ne, Int.not_lt, Int.not_le, ne_eq] at hc5
    refine wp_skip ?_
    refine Sx.then_normal (hK3 _ _ ?_)
    clear hK3
    refine wp_seq_k fun K6 hK6 => ?_
    -- region 4 (ref.go:37)
    refine Sx.wp_text [(0, .take), (1, .run), (2, .take)] rfl ?_
    refine Sx.st_take hT rfl rfl rfl rfl (Sx.x_bld hT rfl Try.bld64 rfl rfl) ?_
    clear hT; intro a hT
    refine Sx.st_eff hT rfl rfl rfl rfl (Sx.y_box hT rfl rfl rfl _) ?_
    clear hT; rintro _ w2 ⟨b1, rfl, N⟩ a hT
    replace H := H.new N; clear N
    refine Sx.st_take hT rfl rfl rfl rfl (Sx.x_assign hT rfl rfl) ?_
    clear hT; intro a hT
    replace hT := hT.keep [5, 10, 4, 3, 2, 0] rfl
    refine Sx.ser_nil ?_
    refine Sx.then_normal (hK6 _ _ ?_)
    clear hK6
    refine wp_seq_k fun K7 hK7 => ?_
    refine wp_seq_k fun K8 hK8 => ?_
    -- region 5 (ref.go:38)
    refine Sx.wp_text [(0, .take)] rfl ?_
    refine Sx.st_take hT rfl rfl rfl rfl (Sx.x_assign hT rfl rfl) ?_
    clear hT; intro a hT
    replace hT := hT.keep [6, 5, 10, 4, 3, 2, 0] rfl
    refine Sx.ser_nil ?_
    refine Sx.then_normal (hK8 _ _ ?_)
    clear hK8
    refine wp_block ?_
    obtain ⟨hbd, hl12⟩ := check_bad hk
    replace H := H.nilR 37 4
    -- loop 0
    refine Sx.wp_loopH (G := Nat × Option Addr × Nat) (fun ⟨k, ad2, c2⟩ => [(6, .int .i64 (k : Int))]) (fun ⟨k, ad2, c2⟩ => [cB b1 [.slice ad2 (learnR [] (l.take k)).1.length c2] 64, cR 37 4 ad2 (learnR [] (l.take k)).1.length c2 ((learnR [] (l.take k)).1.flatMap Rg.cells)]) (fun ⟨k, ad2, c2⟩ => k ≤ l.length) (fun ⟨k, ad2, c2⟩ => l.length - k) (0, none, 0) (hT.keep [6, 5, 10, 4, 3, 2, 0] rfl) (H.keep [1, 0] rfl rfl) (Nat.zero_le _) ?_
    clear hT H
    rintro ⟨k, ad2, c2⟩ a w3 hJ hT H
    replace hT := hT.keep [6, 5, 10, 4, 3, 2, 0] rfl
    replace H := H.keep [0, 1] rfl rfl
    have hkk : k ≤ l.length := hJ
    refine wp_seq_k fun K9 hK9 => ?_
    refine wp_seq_k fun K10 hK10 => ?_
    -- region 6 (ref.go:38)
    refine Sx.wp_text [(0, .take), (1, .take), (2, .take), (3, .take)] rfl ?_
    refine Sx.st_take hT rfl rfl rfl rfl (Sx.x_move hT rfl rfl) ?_
    clear hT; intro a hT
    refine Sx.st_take hT rfl rfl rfl rfl (Sx.x_move hT rfl rfl) ?_
    clear hT; intro a hT
    refine Sx.st_take hT rfl rfl rfl rfl (Sx.x_len_slice hT rfl rfl Try.underlying28 rfl) ?_
    clear hT; intro a hT
    refine Sx.st_take hT rfl rfl rfl rfl ((fun w => Sx.x_lt w hT rfl rfl rfl)) ?_
    clear hT; intro a hT
    replace hT := hT.keep [17, 6, 5, 10, 4, 3, 2, 0] rfl
    refine Sx.ser_nil ?_
    refine Sx.then_normal (hK10 _ _ ?_)
    clear hK10
    -- cond 1
    refine Sx.wp_if hT rfl (fun hc11 => ?_) (fun hc11 => ?_)
    · try simp only [decide_eq_true_eq, decide_eq_false_iff_not, Bool.not_eq_true', Bool.not_eq_false', Bool.not_eq_true, Bool.not_eq_false, Bool.and_eq_true, Bool.or_eq_false_iff, beq_iff_eq, bne_iff_ne, Int.not_lt, Int.not_le, ne_eq] at hc11
      obtain ⟨o, ho⟩ : ∃ o, l[k]? = some o := ⟨_, List.getElem?_eq_getElem (by omega)⟩
      refine wp_skip ?_
      refine Sx.then_normal (hK9 _ _ ?_)
      clear hK9
      refine wp_seq_k fun K12 hK12 => ?_
      refine wp_block ?_
      -- region 8 (ref.go:39)
      refine Sx.wp_text [(0, .take), (1, .take), (2, .take), (3, .take), (4, .run), (5, .run)] rfl ?_
      refine Sx.st_take hT rfl rfl rfl rfl (Sx.x_move hT rfl rfl) ?_
      clear hT; intro a hT
      refine Sx.st_take hT rfl rfl rfl rfl (Sx.x_move hT rfl rfl) ?_
      clear hT; intro a hT
      refine Sx.st_take hT rfl rfl rfl rfl (Sx.x_move hT rfl rfl) ?_
      clear hT; intro a hT
      refine Sx.st_take hT rfl rfl rfl rfl (Sx.x_index (k := k) hT rfl Try.underlying28 Try.ti37 (by first | exact (R.at H.ext).sv | exact ss_to (R.at H.ext) (by omega)) rfl rfl (by first | rfl | omega) (by omega)) ?_
      clear hT; intro a hT
      refine Sx.st_run hT rfl rfl rfl rfl (Sx.y_loadS hT rfl Try.underlying37 Try.ti37 rfl (by first | exact ((H.blk 0 rfl).seg (k := 4) rfl) | exact ((R.at H.ext).cs Rg.len ho)) (by rfl)) ?_
      clear hT; intro a hT
      refine Sx.st_call hT rfl rfl rfl rfl rfl Try.can39 rfl (put14_calls (learnR [] (l.take k)).1 o (H.pre [0, 1] rfl rfl) (gt_no_mem (learn_srt _ List.Pairwise.nil) (learn_piece hbd ho).2) (by have h8 := learn_len (l.take k) ([], 0); have h9 := List.length_take_le k l; unfold learnR; dsimp only at h8; simp only [List.length_nil] at h8; omega)) ?_
      rintro _ w4 ⟨ad8, c8, rfl, K⟩
      refine ⟨_, rfl, ?_⟩
      clear hT; intro a hT
      replace H := H.back [0, 1] [] rfl rfl rfl K rfl; clear K
      rw [← pt_ins (gt_no_mem (learn_srt _ List.Pairwise.nil) (learn_piece hbd ho).2), ← (learn_piece hbd ho).1] at H
      replace hT := hT.keep [17, 6, 5, 10, 4, 3, 2, 0] rfl
      refine Sx.ser_nil ?_
      refine Sx.block_normal ?_
      refine Sx.then_normal (hK12 _ _ ?_)
      clear hK12
      -- region 7 (ref.go:38)
      refine Sx.wp_text [(0, .take), (1, .take), (2, .take)] rfl ?_
      refine Sx.st_take hT rfl rfl rfl rfl (Sx.x_move hT rfl rfl) ?_
      clear hT; intro a hT
      refine Sx.st_take hT rfl rfl rfl rfl ((fun w => Sx.x_add w hT rfl rfl rfl (Sx.wrap64 (by omega)))) ?_
      clear hT; intro a hT
      refine Sx.st_take hT rfl rfl rfl rfl (Sx.x_assign hT rfl rfl) ?_
      clear hT; intro a hT
      replace hT := hT.keep [6, 17, 5, 10, 4, 3, 2, 0] rfl
      refine Sx.ser_nil ?_
      refine Sx.then_normal ?_
      exact ⟨(k + 1, ad8, c8), (show k + 1 ≤ _ by omega), (hT.keep [6, 5, 10, 4, 3, 2, 0] rfl), (H.keep [0, 1] rfl rfl), by show _ - (k + 1) < _ - k; omega⟩
    · try simp only [decide_eq_true_eq, decide_eq_false_iff_not, Bool.not_eq_true', Bool.not_eq_false', Bool.not_eq_true, Bool.not_eq_false, Bool.and_eq_true, Bool.or_eq_false_iff, beq_iff_eq, bne_iff_ne, Int.not_lt, Int.not_le, ne_eq] at hc11
      have hkl : k = l.length := by omega
      rw [hkl, List.take_length] at H
      refine wp_exit ?_
      refine Sx.then_exit ?_
      refine Sx.then_exit ?_
      refine Sx.block_exit ?_
      refine Sx.then_normal (hK7 _ _ ?_)
      clear hK7
      refine wp_seq_k fun K13 hK13 => ?_
      -- region 9 (ref.go:41)
      refine Sx.wp_text [(0, .take), (1, .take), (2, .take)] rfl ?_
      refine Sx.st_take hT rfl rfl rfl rfl (Sx.x_move hT rfl rfl) ?_
      clear hT; intro a hT
      refine Sx.st_take hT rfl rfl rfl rfl (Sx.x_assign hT rfl rfl) ?_
      clear hT; intro a hT
      refine Sx.st_take hT rfl rfl rfl rfl (Sx.x_assign hT rfl rfl) ?_
      clear hT; intro a hT
      replace hT := hT.keep [3, 2, 17, 6, 5, 10, 4, 0] rfl
      refine Sx.ser_nil ?_
      refine Sx.then_normal (hK13 _ _ ?_)
      clear hK13
      refine wp_ret ?_
      refine Sx.done2 (fn := Try.f21) hT rfl (.tmp (hT.get 2 _ rfl)) (.tmp (hT.get 3 _ rfl)) ?_
      exact ⟨_, _, _, rfl, H.keep [0, 1] rfl rfl⟩

theorem New14_no {ad : Option Addr} {c : Nat} (l : List Rg) {w : World} (hs : Ss w ad Rg.cells 4 l) (hl : l.length ≤ 1000000) (hcap : l.length ≤ c) (hw : ∀ r ∈ l, r.wf) (hk : checkF l ≠ 0) : Calls Try.prog 21 #[.slice ad l.length c] w fun e w' => e = .returned (.tuple #[.pointer none, .int .i64 (checkF l)]) ∧ Ext No w w' := by
  have R : Ro w No _ := Ro.of fun w' x => hs.ext_no x
  refine Sx.calls_into Try.func21 rfl Try.ntmps21 rfl fun a hT => ?_
  replace hT := hT.keep [0] rfl
  have H : Sx.Hp w (Sx.No) w [] := Sx.Hp.start _ _
  refine wp_seq_k fun K1 hK1 => ?_
  -- region 0 (ref.go:32)
  refine Sx.wp_text [(0, .take), (1, .take)] rfl ?_
  refine Sx.st_take hT rfl rfl rfl rfl (Sx.x_assign hT rfl rfl) ?_
  clear hT; intro a hT
  refine Sx.st_take hT rfl rfl rfl rfl (Sx.x_assign hT rfl rfl) ?_
  clear hT; intro a hT
  replace hT := hT.keep [3, 2, 0] rfl
  refine Sx.ser_nil ?_
  refine Sx.then_normal (hK1 _ _ ?_)
  clear hK1
  refine wp_seq_k fun K2 hK2 => ?_
  -- region 1 (ref.go:33)
  refine Sx.wp_text [(0, .take), (1, .run), (2, .take)] rfl ?_
  refine Sx.st_take hT rfl rfl rfl rfl (Sx.x_move hT rfl rfl) ?_
  clear hT; intro a hT
  refine Sx.st_call hT rfl rfl rfl rfl rfl Try.can16 rfl (Check4_calls l (R.at H.ext) hl hcap hw) ?_
  rintro _ w1 ⟨rfl, E⟩
  refine ⟨_, rfl, ?_⟩
  clear hT; intro a hT
  replace H := H.pure E; clear E
  refine Sx.st_take hT rfl rfl rfl rfl (Sx.x_assign hT rfl rfl) ?_
  clear hT; intro a hT
  replace hT := hT.keep [4, 3, 2, 0] rfl
  refine Sx.ser_nil ?_
  refine Sx.then_normal (hK2 _ _ ?_)
  clear hK2
  refine wp_seq_k fun K3 hK3 => ?_
  refine wp_seq_k fun K4 hK4 => ?_
  -- region 2 (ref.go:34)
  refine Sx.wp_text [(0, .take), (1, .take)] rfl ?_
  refine Sx.st_take hT rfl rfl rfl rfl (Sx.x_move hT rfl rfl) ?_
  clear hT; intro a hT
  refine Sx.st_take hT rfl rfl rfl rfl ((fun w => Sx.x_ne w hT rfl rfl rfl)) ?_
  clear hT; intro a hT
  replace hT := hT.keep [10, 4, 3, 2, 0] rfl
  refine Sx.ser_nil ?_
  refine Sx.then_normal (hK4 _ _ ?_)
  clear hK4
  -- cond 0
  refine Sx.wp_if hT rfl (fun hc5 => ?_) (fun hc5 => ?_)
  · try simp only [decide_eq_true_eq, decide_eq_false_iff_not, Bool.not_eq_true', Bool.not_eq_false', Bool.not_eq_true, Bool.not_eq_false, Bool.and_eq_true, Bool.or_eq_false_iff, beq_iff_eq, bne_iff_ne, Int.not_lt, Int.not_le, ne_eq] at hc5
    refine wp_seq_k fun K6 hK6 => ?_
    -- region 3 (ref.go:35)
    refine Sx.wp_text [(0, .take), (1, .take), (2, .take)] rfl ?_
    refine Sx.st_take hT rfl rfl rfl rfl (Sx.x_move hT rfl rfl) ?_
    clear hT; intro a hT
    refine Sx.st_take hT rfl rfl rfl rfl (Sx.x_assign hT rfl rfl) ?_
    clear hT; intro a hT
    refine Sx.st_take hT rfl rfl rfl rfl (Sx.x_assign hT rfl rfl) ?_
    clear hT; intro a hT
    replace hT := hT.keep [3, 2, 10, 4, 0] rfl
    refine Sx.ser_nil ?_
    refine Sx.then_normal (hK6 _ _ ?_)
    clear hK6
    refine wp_ret ?_
    refine Sx.then_ret ?_
    refine Sx.done2 (fn := Try.f21) hT rfl (.tmp (hT.get 2 _ rfl)) (.tmp (hT.get 3 _ rfl)) ?_
    exact ⟨rfl, H.ext⟩
  · exfalso
    try simp only [decide_eq_true_eq, decide_eq_false_iff_not, Bool.not_eq_true', Bool.not_eq_false', Bool.not_eq_true, Bool.not_eq_false, Bool.and_eq_true, Bool.or_eq_false_iff, beq_iff_eq, bne_iff_ne, Int.not_lt, Int.not_le, ne_eq] at hc5
    exact hk hc5

set_option maxHeartbeats 2000000 in
theorem Group14_calls {p : Nat} {D : List Rg} {ad5 : Option Addr} {c5 : Nat} {ad : Option Addr} {c : Nat} (ks : List (List UInt8)) {w : World} (hP : Blk w p [.slice ad5 D.length c5] 64) (hR : Ss w ad5 Rg.cells 4 D) (hDs : Srt D) (hb : BD D) (hs : Ss w ad kc 1 ks) (hl : ks.length ≤ 1000000) (hkb : ∀ l ∈ ks, l.length ≤ 9223372036854775807) : Calls Try.prog 24 #[.pointer (some ⟨p, 0, none⟩), .slice ad ks.length c] w fun e w' => ∃ ad' c' L, e = .returned (.tuple #[.slice ad' (List.length L) c', .int .i64 (errG D ks)]) ∧ Hp w No w' [cR 88 5 ad' L.length c' (L.flatMap Gr.cells), cF 9 1 Gr.rw L] ∧ L.map Gr.pure = (if errG D ks = 0 then specG D ks else []) := by
  have R : Ro w No _ := Ro.of fun w' x => hs.ext_no x
  have RP : Ro w No _ := Ro.of fun w' x => hP.ext_no x
  have RR9 : Ro w No _ := Ro.of fun w' x => hR.ext_no x
  have h12 := few12 hDs hb
  refine Sx.calls_into Try.func24 rfl Try.ntmps24 rfl fun a hT => ?_
  replace hT := hT.keep [0, 1] rfl
  have H : Sx.Hp w (Sx.No) w [] := Sx.Hp.start _ _
  refine wp_seq_k fun K1 hK1 => ?_
  -- region 0 (ref.go:81)
  refine Sx.wp_text [(0, .take), (1, .take)] rfl ?_
  refine Sx.st_take hT rfl rfl rfl rfl (Sx.x_assign hT rfl rfl) ?_
  clear hT; intro a hT
  refine Sx.st_take hT rfl rfl rfl rfl (Sx.x_assign hT rfl rfl) ?_
  clear hT; intro a hT
  replace hT := hT.keep [5, 4, 0, 1] rfl
  refine Sx.ser_nil ?_
  refine Sx.then_normal (hK1 _ _ ?_)
  clear hK1
  refine wp_seq_k fun K2 hK2 => ?_
  refine wp_seq_k fun K3 hK3 => ?_
  -- region 1 (ref.go:82)
  refine Sx.wp_text [(0, .take)] rfl ?_
  refine Sx.st_take hT rfl rfl rfl rfl (Sx.x_assign hT rfl rfl) ?_
  clear hT; intro a hT
  replace hT := hT.keep [6, 5, 4, 0, 1] rfl
  refine Sx.ser_nil ?_
  refine Sx.then_normal (hK3 _ _ ?_)
  clear hK3
  refine wp_block ?_
  -- loop 0
  refine Sx.wp_loopH (G := Nat) (fun k => [(6, .int .i64 (k : Int))]) (fun k => []) (fun k => k ≤ ks.length ∧ ∀ (t : Nat) q, t < k → ks[t]? = some q → (routeL D q).isSome = true) (fun k => ks.length - k) 0 (hT.keep [6, 0, 1] rfl) (H.keep [] rfl rfl) (⟨Nat.zero_le _, fun t q h => by omega⟩) ?_
  clear hT H
  rintro k a w1 hJ hT H
  replace hT := hT.keep [6, 0, 1] rfl
  replace H := H.keep [] rfl rfl
  obtain ⟨hk, hok⟩ := hJ
  refine wp_seq_k fun K4 hK4 => ?_
  refine wp_seq_k fun K5 hK5 => ?_
  -- region 2 (ref.go:82)
  refine Sx.wp_text [(0, .take), (1, .take), (2, .take), (3, .take)] rfl ?_
  refine Sx.st_take hT rfl rfl rfl rfl (Sx.x_move hT rfl rfl) ?_
  clear hT; intro a hT
  refine Sx.st_take hT rfl rfl rfl rfl (Sx.x_move hT rfl rfl) ?_
  clear hT; intro a hT
  refine Sx.st_take hT rfl rfl rfl rfl (Sx.x_len_slice hT rfl rfl Try.underlying25 rfl) ?_
  clear hT; intro a hT
  refine Sx.st_take hT rfl rfl rfl rfl ((fun w => Sx.x_lt w hT rfl rfl rfl)) ?_
  clear hT; intro a hT
  replace hT := hT.keep [20, 6, 0, 1] rfl
  refine Sx.ser_nil ?_
  refine Sx.then_normal (hK5 _ _ ?_)
  clear hK5
  -- cond 0
  refine Sx.wp_if hT rfl (fun hc6 => ?_) (fun hc6 => ?_)
  · try simp only [decide_eq_true_eq, decide_eq_false_iff_not, Bool.not_eq_true', Bool.not_eq_false', Bool.not_eq_true, Bool.not_eq_false, Bool.and_eq_true, Bool.or_eq_false_iff, beq_iff_eq, bne_iff_ne, Int.not_lt, Int.not_le, ne_eq] at hc6
    obtain ⟨key, hkey⟩ : ∃ o, ks[k]? = some o := ⟨_, List.getElem?_eq_getElem (by omega)⟩
    have hkl := hkb key (List.mem_of_getElem? hkey)
    refine wp_skip ?_
    refine Sx.then_normal (hK4 _ _ ?_)
    clear hK4
    refine wp_seq_k fun K7 hK7 => ?_
    refine wp_block ?_
    refine wp_seq_k fun K8 hK8 => ?_
    refine wp_seq_k fun K9 hK9 => ?_
    -- region 4 (ref.go:83)
    refine Sx.wp_text [(0, .take), (1, .take), (2, .take), (3, .run), (4, .run), (5, .take)] rfl ?_
    refine Sx.st_take hT rfl rfl rfl rfl (Sx.x_move hT rfl rfl) ?_
    clear hT; intro a hT
    refine Sx.st_take hT rfl rfl rfl rfl (Sx.x_move hT rfl rfl) ?_
    clear hT; intro a hT
    refine Sx.st_take hT rfl rfl rfl rfl (Sx.x_index (k := k) hT rfl Try.underlying25 Try.ti9 (by first | exact (R.at H.ext).sv | exact (RR9.at H.ext).sv) rfl rfl (by first | rfl | omega) (by omega)) ?_
    clear hT; intro a hT
    refine Sx.st_run hT rfl rfl rfl rfl (Sx.x_load1 hT rfl Try.fl9 rfl (by first | exact ((R.at H.ext).cell (j := 0) kc_len hkey rfl) | exact ((RP.at H.ext).nth rfl) | exact ((R.at H.ext).cell (j := 0) kc_len hkey3 rfl))) ?_
    clear hT; intro a hT
    refine Sx.st_call hT rfl rfl rfl rfl rfl Try.can40 rfl (Key3_calls key hkl _) ?_
    rintro _ w2 ⟨rfl, E⟩
    refine ⟨_, rfl, ?_⟩
    clear hT; intro a hT
    replace H := H.pure E; clear E
    refine Sx.st_take hT rfl rfl rfl rfl (Sx.x_not hT rfl rfl) ?_
    clear hT; intro a hT
    replace hT := hT.keep [28, 20, 6, 0, 1] rfl
    refine Sx.ser_nil ?_
    refine Sx.then_normal (hK9 _ _ ?_)
    clear hK9
    -- cond 1
    refine Sx.wp_if hT rfl (fun hc10 => ?_) (fun hc10 => ?_)
    · try simp only [decide_eq_true_eq, decide_eq_false_iff_not, Bool.not_eq_true', Bool.not_eq_false', Bool.not_eq_true, Bool.not_eq_false, Bool.and_eq_true, Bool.or_eq_false_iff, beq_iff_eq, bne_iff_ne, Int.not_lt, Int.not_le, ne_eq] at hc10
      have hky : keyF key = false := hc10
      refine wp_seq_k fun K11 hK11 => ?_
      -- region 5 (ref.go:84)
      refine Sx.wp_text [(0, .take), (1, .take)] rfl ?_
      refine Sx.st_take hT rfl rfl rfl rfl (Sx.x_assign hT rfl rfl) ?_
      clear hT; intro a hT
      refine Sx.st_take hT rfl rfl rfl rfl (Sx.x_assign hT rfl rfl) ?_
      clear hT; intro a hT
      replace hT := hT.keep [5, 4, 28, 20, 6, 0, 1] rfl
      refine Sx.ser_nil ?_
      refine Sx.then_normal (hK11 _ _ ?_)
      clear hK11
      refine wp_ret ?_
      refine Sx.then_ret ?_
      refine Sx.block_ret ?_
      refine Sx.then_ret ?_
      refine Sx.then_ret ?_
      refine Sx.block_ret ?_
      refine Sx.then_ret ?_
      refine Sx.done2 (fn := Try.f24) hT rfl (.tmp (hT.get 4 _ rfl)) (.tmp (hT.get 5 _ rfl)) ?_
      have hrn : routeL D key = none := routeL_no hky
      have hee : errG D ks = 10 := by rw [err_at hok hkey hrn, if_neg (by rw [hky]; decide)]
      refine ⟨none, 0, [], by rw [hee]; rfl, (((H.keep [] rfl rfl).famNil 9 1 Gr.rw).nilR 88 5), ?_⟩
      rw [if_neg (by rw [hee]; decide)]
      rfl
    · try simp only [decide_eq_true_eq, decide_eq_false_iff_not, Bool.not_eq_true', Bool.not_eq_false', Bool.not_eq_true, Bool.not_eq_false, Bool.and_eq_true, Bool.or_eq_false_iff, beq_iff_eq, bne_iff_ne, Int.not_lt, Int.not_le, ne_eq] at hc10
      have hky : keyF key = true := hc10
      refine wp_skip ?_
      refine Sx.then_normal (hK8 _ _ ?_)
      clear hK8
      refine wp_seq_k fun K12 hK12 => ?_
      -- region 6 (ref.go:86)
      refine Sx.wp_text [(0, .take), (1, .take), (2, .take), (3, .take), (4, .run), (5, .run), (6, .take), (7, .take), (8, .take), (9, .run), (10, .run), (11, .take)] rfl ?_
      refine Sx.st_take hT rfl rfl rfl rfl (Sx.x_move hT rfl rfl) ?_
      clear hT; intro a hT
      refine Sx.st_take hT rfl rfl rfl rfl (Sx.x_move hT rfl rfl) ?_
      clear hT; intro a hT
      refine Sx.st_take hT rfl rfl rfl rfl (Sx.x_move hT rfl rfl) ?_
      clear hT; intro a hT
      refine Sx.st_take hT rfl rfl rfl rfl (Sx.x_index (k := k) hT rfl Try.underlying25 Try.ti9 (by first | exact (R.at H.ext).sv | exact (RR9.at H.ext).sv) rfl rfl (by first | rfl | omega) (by omega)) ?_
      clear hT; intro a hT
      refine Sx.st_run hT rfl rfl rfl rfl (Sx.x_load1 hT rfl Try.fl9 rfl (by first | exact ((R.at H.ext).cell (j := 0) kc_len hkey rfl) | exact ((RP.at H.ext).nth rfl) | exact ((R.at H.ext).cell (j := 0) kc_len hkey3 rfl))) ?_
      clear hT; intro a hT
      refine Sx.st_call hT rfl rfl rfl rfl rfl Try.can22 rfl (Route14_calls key hkl (RP.at H.ext) (RR9.at H.ext) hDs hb) ?_
      rintro _ w3 ⟨rfl, E⟩
      refine ⟨_, rfl, ?_⟩
      clear hT; intro a hT
      replace H := H.pure E; clear E
      obtain ⟨ro9, hro⟩ : ∃ o, routeL D key = o := ⟨_, rfl⟩
      rw [hro] at hT
      refine Sx.st_take hT rfl rfl rfl rfl (Sx.x_move hT rfl rfl) ?_
      clear hT; intro a hT
      refine Sx.st_take hT rfl rfl rfl rfl (Sx.x_extractL hT rfl rfl rfl) ?_
      clear hT; intro a hT
      refine Sx.st_take hT rfl rfl rfl rfl (Sx.x_extractL hT rfl rfl rfl) ?_
      clear hT; intro a hT
      refine Sx.st_eff hT rfl rfl rfl rfl (Sx.y_alloc hT rfl Try.ti37 rfl _) ?_
      clear hT; rintro _ w4 ⟨b1, rfl, N⟩ a hT
      replace H := H.new N; clear N
      refine Sx.st_act hT rfl rfl rfl (Sx.y_storeS hT rfl Try.ti37 rfl rfl rfl rfl rfl (H.blk 0 rfl) rfl) ?_
      rintro w5 ⟨hb, E, _⟩
      replace H := H.setB 0 rfl hb E rfl; clear hb E
      refine Sx.st_take hT rfl rfl rfl rfl (Sx.x_assign hT rfl rfl) ?_
      clear hT; intro a hT
      replace hT := hT.keep [8, 28, 20, 6, 0, 1] rfl
      refine Sx.ser_nil ?_
      refine Sx.then_normal (hK12 _ _ ?_)
      clear hK12
      refine wp_seq_k fun K13 hK13 => ?_
      -- region 7 (ref.go:87)
      refine Sx.wp_text [(0, .take), (1, .take)] rfl ?_
      refine Sx.st_take hT rfl rfl rfl rfl (Sx.x_move hT rfl rfl) ?_
      clear hT; intro a hT
      refine Sx.st_take hT rfl rfl rfl rfl (Sx.x_not hT rfl rfl) ?_
      clear hT; intro a hT
      replace hT := hT.keep [39, 8, 28, 20, 6, 0, 1] rfl
      refine Sx.ser_nil ?_
      refine Sx.then_normal (hK13 _ _ ?_)
      clear hK13
      -- cond 2
      refine Sx.wp_if hT rfl (fun hc14 => ?_) (fun hc14 => ?_)
      · try simp only [decide_eq_true_eq, decide_eq_false_iff_not, Bool.not_eq_true', Bool.not_eq_false', Bool.not_eq_true, Bool.not_eq_false, Bool.and_eq_true, Bool.or_eq_false_iff, beq_iff_eq, bne_iff_ne, Int.not_lt, Int.not_le, ne_eq] at hc14
        obtain rfl : ro9 = none := by simpa using hc14
        refine wp_seq_k fun K15 hK15 => ?_
        -- region 8 (ref.go:88)
        refine Sx.wp_text [(0, .take), (1, .take)] rfl ?_
        refine Sx.st_take hT rfl rfl rfl rfl (Sx.x_assign hT rfl rfl) ?_
        clear hT; intro a hT
        refine Sx.st_take hT rfl rfl rfl rfl (Sx.x_assign hT rfl rfl) ?_
        clear hT; intro a hT
        replace hT := hT.keep [5, 4, 39, 8, 28, 20, 6, 0, 1] rfl
        refine Sx.ser_nil ?_
        refine Sx.then_normal (hK15 _ _ ?_)
        clear hK15
        refine wp_ret ?_
        refine Sx.block_ret ?_
        refine Sx.then_ret ?_
        refine Sx.then_ret ?_
        refine Sx.block_ret ?_
        refine Sx.then_ret ?_
        refine Sx.done2 (fn := Try.f24) hT rfl (.tmp (hT.get 4 _ rfl)) (.tmp (hT.get 5 _ rfl)) ?_
        have hrn : routeL D key = none := hro
        have hee : errG D ks = 8 := by rw [err_at hok hkey hrn, if_pos hky]
        refine ⟨none, 0, [], by rw [hee]; rfl, (((H.keep [] rfl rfl).famNil 9 1 Gr.rw).nilR 88 5), ?_⟩
        rw [if_neg (by rw [hee]; decide)]
        rfl
      · try simp only [decide_eq_true_eq, decide_eq_false_iff_not, Bool.not_eq_true', Bool.not_eq_false', Bool.not_eq_true, Bool.not_eq_false, Bool.and_eq_true, Bool.or_eq_false_iff, beq_iff_eq, bne_iff_ne, Int.not_lt, Int.not_le, ne_eq] at hc14
        have hro9 : ro9.isSome = true := hc14
        refine wp_skip ?_
        refine Sx.block_normal ?_
        refine Sx.then_normal (hK7 _ _ ?_)
        clear hK7
        -- region 3 (ref.go:82)
        refine Sx.wp_text [(0, .take), (1, .take), (2, .take)] rfl ?_
        refine Sx.st_take hT rfl rfl rfl rfl (Sx.x_move hT rfl rfl) ?_
        clear hT; intro a hT
        refine Sx.st_take hT rfl rfl rfl rfl ((fun w => Sx.x_add w hT rfl rfl rfl (Sx.wrap64 (by omega)))) ?_
        clear hT; intro a hT
        refine Sx.st_take hT rfl rfl rfl rfl (Sx.x_assign hT rfl rfl) ?_
        clear hT; intro a hT
        replace hT := hT.keep [6, 39, 8, 28, 20, 0, 1] rfl
        refine Sx.ser_nil ?_
        refine Sx.then_normal ?_
        exact ⟨k + 1, ⟨by omega, ok_snoc hok hkey (by rw [hro]; exact hro9)⟩, (hT.keep [6, 0, 1] rfl), (H.keep [] rfl rfl), by omega⟩
  · try simp only [decide_eq_true_eq, decide_eq_false_iff_not, Bool.not_eq_true', Bool.not_eq_false', Bool.not_eq_true, Bool.not_eq_false, Bool.and_eq_true, Bool.or_eq_false_iff, beq_iff_eq, bne_iff_ne, Int.not_lt, Int.not_le, ne_eq] at hc6
    have hkq : k = ks.length := by omega
    rw [hkq] at hok
    have hee := err_no hok
    refine wp_exit ?_
    refine Sx.then_exit ?_
    refine Sx.then_exit ?_
    refine Sx.block_exit ?_
    refine Sx.then_normal (hK2 _ _ ?_)
    clear hK2
    refine wp_seq_k fun K16 hK16 => ?_
    -- region 9 (ref.go:91)
    refine Sx.wp_text [(0, .take)] rfl ?_
    refine Sx.st_take hT rfl rfl rfl rfl (Sx.x_assign hT rfl rfl) ?_
    clear hT; intro a hT
    replace hT := hT.keep [9, 20, 6, 0, 1] rfl
    refine Sx.ser_nil ?_
    refine Sx.then_normal (hK16 _ _ ?_)
    clear hK16
    refine wp_seq_k fun K17 hK17 => ?_
    refine wp_seq_k fun K18 hK18 => ?_
    -- region 10 (ref.go:92)
    refine Sx.wp_text [(0, .take)] rfl ?_
    refine Sx.st_take hT rfl rfl rfl rfl (Sx.x_assign hT rfl rfl) ?_
    clear hT; intro a hT
    replace hT := hT.keep [10, 9, 20, 6, 0, 1] rfl
    refine Sx.ser_nil ?_
    refine Sx.then_normal (hK18 _ _ ?_)
    clear hK18
    refine wp_block ?_
    replace H := (H.famNil 9 1 Gr.rw).nilR 88 5
    -- loop 1
    refine Sx.wp_loopH (G := Nat × Option Addr × Nat × List Gr) (fun ⟨q, ad3, c3, L2⟩ => [(10, .int .i64 (q : Int)), (9, .slice ad3 L2.length c3)]) (fun ⟨q, ad3, c3, L2⟩ => [cR 88 5 ad3 L2.length c3 (L2.flatMap Gr.cells), cF 9 1 Gr.rw L2]) (fun ⟨q, ad3, c3, L2⟩ => q ≤ D.length ∧ L2.map Gr.pure = specE D (D.take q) ks ∧ L2.length ≤ q) (fun ⟨q, ad3, c3, L2⟩ => D.length - q) (0, none, 0, []) (hT.keep [10, 9, 20, 6, 0, 1] rfl) (H.keep [0, 1] rfl rfl) (⟨Nat.zero_le _, rfl, Nat.zero_le _⟩) ?_
    clear hT H
    rintro ⟨q, ad3, c3, L2⟩ a w6 hJ hT H
    replace hT := hT.keep [10, 9, 20, 6, 0, 1] rfl
    replace H := H.keep [0, 1] rfl rfl
    obtain ⟨hq, hsp, hLq⟩ := hJ
    refine wp_seq_k fun K19 hK19 => ?_
    refine wp_seq_k fun K20 hK20 => ?_
    -- region 11 (ref.go:92)
    refine Sx.wp_text [(0, .take), (1, .take), (2, .take), (3, .take), (4, .run), (5, .take), (6, .take)] rfl ?_
    refine Sx.st_take hT rfl rfl rfl rfl (Sx.x_move hT rfl rfl) ?_
    clear hT; intro a hT
    refine Sx.st_take hT rfl rfl rfl rfl (Sx.x_move hT rfl rfl) ?_
    clear hT; intro a hT
    refine Sx.st_take hT rfl rfl rfl rfl (Sx.x_nilCheck hT rfl rfl) ?_
    clear hT; intro a hT
    refine Sx.st_take hT rfl rfl rfl rfl (Sx.x_fieldAddr hT rfl Try.fa64_0 rfl) ?_
    clear hT; intro a hT
    refine Sx.st_run hT rfl rfl rfl rfl (Sx.x_load1 hT rfl Try.fl28 rfl (by first | exact ((R.at H.ext).cell (j := 0) kc_len hkey rfl) | exact ((RP.at H.ext).nth rfl) | exact ((R.at H.ext).cell (j := 0) kc_len hkey3 rfl))) ?_
    clear hT; intro a hT
    refine Sx.st_take hT rfl rfl rfl rfl (Sx.x_len_slice hT rfl rfl Try.underlying28 rfl) ?_
    clear hT; intro a hT
    refine Sx.st_take hT rfl rfl rfl rfl ((fun w => Sx.x_lt w hT rfl rfl rfl)) ?_
    clear hT; intro a hT
    replace hT := hT.keep [46, 10, 9, 20, 6, 0, 1] rfl
    refine Sx.ser_nil ?_
    refine Sx.then_normal (hK20 _ _ ?_)
    clear hK20
    -- cond 3
    refine Sx.wp_if hT rfl (fun hc21 => ?_) (fun hc21 => ?_)
    · try simp only [decide_eq_true_eq, decide_eq_false_iff_not, Bool.not_eq_true', Bool.not_eq_false', Bool.not_eq_true, Bool.not_eq_false, Bool.and_eq_true, Bool.or_eq_false_iff, beq_iff_eq, bne_iff_ne, Int.not_lt, Int.not_le, ne_eq] at hc21
      obtain ⟨r, hr⟩ : ∃ o, D[q]? = some o := ⟨_, List.getElem?_eq_getElem (by omega)⟩
      refine wp_skip ?_
      refine Sx.then_normal (hK19 _ _ ?_)
      clear hK19
      refine wp_seq_k fun K22 hK22 => ?_
      refine wp_block ?_
      refine wp_seq_k fun K23 hK23 => ?_
      -- region 13 (ref.go:93)
      refine Sx.wp_text [(0, .take), (1, .take), (2, .take), (3, .run), (4, .take), (5, .take), (6, .run), (7, .take), (8, .run), (9, .run)] rfl ?_
      refine Sx.st_take hT rfl rfl rfl rfl (Sx.x_move hT rfl rfl) ?_
      clear hT; intro a hT
      refine Sx.st_take hT rfl rfl rfl rfl (Sx.x_nilCheck hT rfl rfl) ?_
      clear hT; intro a hT
      refine Sx.st_take hT rfl rfl rfl rfl (Sx.x_fieldAddr hT rfl Try.fa64_0 rfl) ?_
      clear hT; intro a hT
      refine Sx.st_run hT rfl rfl rfl rfl (Sx.x_load1 hT rfl Try.fl28 rfl (by first | exact ((R.at H.ext).cell (j := 0) kc_len hkey rfl) | exact ((RP.at H.ext).nth rfl) | exact ((R.at H.ext).cell (j := 0) kc_len hkey3 rfl))) ?_
      clear hT; intro a hT
      refine Sx.st_take hT rfl rfl rfl rfl (Sx.x_move hT rfl rfl) ?_
      clear hT; intro a hT
      refine Sx.st_take hT rfl rfl rfl rfl (Sx.x_index (k := q) hT rfl Try.underlying28 Try.ti37 (by first | exact (R.at H.ext).sv | exact (RR9.at H.ext).sv) rfl rfl (by first | rfl | omega) (by omega)) ?_
      clear hT; intro a hT
      refine Sx.st_run hT rfl rfl rfl rfl (Sx.y_loadS hT rfl Try.underlying37 Try.ti37 rfl ((RR9.at H.ext).cs Rg.len hr) (by rfl)) ?_
      clear hT; intro a hT
      refine Sx.st_take hT rfl rfl rfl rfl (Sx.x_bld hT rfl Try.bld88 rfl rfl) ?_
      clear hT; intro a hT
      refine Sx.st_eff hT rfl rfl rfl rfl (Sx.y_alloc hT rfl Try.ti88 rfl _) ?_
      clear hT; rintro _ w7 ⟨b2, rfl, N⟩ a hT
      replace H := H.new N; clear N
      refine Sx.st_act hT rfl rfl rfl (Sx.y_storeS hT rfl Try.ti88 rfl rfl rfl rfl rfl (H.blk 0 rfl) rfl) ?_
      rintro w8 ⟨hb, E, _⟩
      replace H := H.setB 0 rfl hb E rfl; clear hb E
      replace hT := hT.keep [11, 46, 10, 9, 20, 6, 0, 1] rfl
      refine Sx.ser_nil ?_
      refine Sx.then_normal (hK23 _ _ ?_)
      clear hK23
      refine wp_seq_k fun K24 hK24 => ?_
      refine wp_seq_k fun K25 hK25 => ?_
      -- region 14 (ref.go:94)
      refine Sx.wp_text [(0, .take)] rfl ?_
      refine Sx.st_take hT rfl rfl rfl rfl (Sx.x_assign hT rfl rfl) ?_
      clear hT; intro a hT
      replace hT := hT.keep [12, 11, 46, 10, 9, 20, 6, 0, 1] rfl
      refine Sx.ser_nil ?_
      refine Sx.then_normal (hK25 _ _ ?_)
      clear hK25
      refine wp_block ?_
      replace H := H.nilR 9 1
      -- loop 2
      refine Sx.wp_loopH (G := Nat × Option Addr × Nat) (fun ⟨i, ad4, c4⟩ => [(12, .int .i64 (i : Int))]) (fun ⟨i, ad4, c4⟩ => [cB b2 [.int .i64 r.id, .int .i64 r.epoch, .float .f64 r.lo, .float .f64 r.hi, .slice ad4 (fil D r.id (ks.take i)).length c4] 88, cR 9 1 ad4 (fil D r.id (ks.take i)).length c4 ((fil D r.id (ks.take i)).flatMap kc)]) (fun ⟨i, ad4, c4⟩ => i ≤ ks.length) (fun ⟨i, ad4, c4⟩ => ks.length - i) (0, none, 0) (hT.keep [12, 11, 46, 10, 9, 20, 6, 0, 1] rfl) (H.keep [1, 0, 2, 3] rfl rfl) (Nat.zero_le _) ?_
      clear hT H
      rintro ⟨i, ad4, c4⟩ a w9 hJ hT H
      replace hT := hT.keep [12, 11, 46, 10, 9, 20, 6, 0, 1] rfl
      replace H := H.keep [0, 1, 2, 3] rfl rfl
      have hi : i ≤ ks.length := hJ
      have hfl := Nat.le_trans (fil_len D r.id (ks.take i)) (List.length_take_le i ks)
      refine wp_seq_k fun K26 hK26 => ?_
      refine wp_seq_k fun K27 hK27 => ?_
      -- region 15 (ref.go:94)
      refine Sx.wp_text [(0, .take), (1, .take), (2, .take), (3, .take)] rfl ?_
      refine Sx.st_take hT rfl rfl rfl rfl (Sx.x_move hT rfl rfl) ?_
      clear hT; intro a hT
      refine Sx.st_take hT rfl rfl rfl rfl (Sx.x_move hT rfl rfl) ?_
      clear hT; intro a hT
      refine Sx.st_take hT rfl rfl rfl rfl (Sx.x_len_slice hT rfl rfl Try.underlying25 rfl) ?_
      clear hT; intro a hT
      refine Sx.st_take hT rfl rfl rfl rfl ((fun w => Sx.x_lt w hT rfl rfl rfl)) ?_
      clear hT; intro a hT
      replace hT := hT.keep [60, 12, 11, 46, 10, 9, 20, 6, 0, 1] rfl
      refine Sx.ser_nil ?_
      refine Sx.then_normal (hK27 _ _ ?_)
      clear hK27
      -- cond 4
      refine Sx.wp_if hT rfl (fun hc28 => ?_) (fun hc28 => ?_)
      · try simp only [decide_eq_true_eq, decide_eq_false_iff_not, Bool.not_eq_true', Bool.not_eq_false', Bool.not_eq_true, Bool.not_eq_false, Bool.and_eq_true, Bool.or_eq_false_iff, beq_iff_eq, bne_iff_ne, Int.not_lt, Int.not_le, ne_eq] at hc28
        obtain ⟨key, hkey⟩ : ∃ o, ks[i]? = some o := ⟨_, List.getElem?_eq_getElem (by omega)⟩
        have hkl := hkb key (List.mem_of_getElem? hkey)
        refine wp_skip ?_
        refine Sx.then_normal (hK26 _ _ ?_)
        clear hK26
        refine wp_seq_k fun K29 hK29 => ?_
        refine wp_block ?_
        refine wp_seq_k fun K30 hK30 => ?_
        -- region 17 (ref.go:95)
        refine Sx.wp_text [(0, .take), (1, .take), (2, .take), (3, .take), (4, .run), (5, .run), (6, .take), (7, .take), (8, .take), (9, .run), (10, .run), (11, .take)] rfl ?_
        refine Sx.st_take hT rfl rfl rfl rfl (Sx.x_move hT rfl rfl) ?_
        clear hT; intro a hT
        refine Sx.st_take hT rfl rfl rfl rfl (Sx.x_move hT rfl rfl) ?_
        clear hT; intro a hT
        refine Sx.st_take hT rfl rfl rfl rfl (Sx.x_move hT rfl rfl) ?_
        clear hT; intro a hT
        refine Sx.st_take hT rfl rfl rfl rfl (Sx.x_index (k := i) hT rfl Try.underlying25 Try.ti9 (by first | exact (R.at H.ext).sv | exact (RR9.at H.ext).sv) rfl rfl (by first | rfl | omega) (by omega)) ?_
        clear hT; intro a hT
        refine Sx.st_run hT rfl rfl rfl rfl (Sx.x_load1 hT rfl Try.fl9 rfl (by first | exact ((H.blk 0 rfl).nth rfl) | exact ((R.at H.ext).cell (j := 0) kc_len hkey rfl) | exact ((RP.at H.ext).nth rfl) | exact ((R.at H.ext).cell (j := 0) kc_len hkey3 rfl))) ?_
        clear hT; intro a hT
        refine Sx.st_call hT rfl rfl rfl rfl rfl Try.can22 rfl (Route14_calls key hkl (RP.at H.ext) (RR9.at H.ext) hDs hb) ?_
        rintro _ w10 ⟨rfl, E⟩
        refine ⟨_, rfl, ?_⟩
        clear hT; intro a hT
        replace H := H.pure E; clear E
        obtain ⟨ro9, hro⟩ : ∃ o, routeL D key = o := ⟨_, rfl⟩
        rw [hro] at hT
        refine Sx.st_take hT rfl rfl rfl rfl (Sx.x_move hT rfl rfl) ?_
        clear hT; intro a hT
        refine Sx.st_take hT rfl rfl rfl rfl (Sx.x_extractL hT rfl rfl rfl) ?_
        clear hT; intro a hT
        refine Sx.st_take hT rfl rfl rfl rfl (Sx.x_extractL hT rfl rfl rfl) ?_
        clear hT; intro a hT
        refine Sx.st_eff hT rfl rfl rfl rfl (Sx.y_alloc hT rfl Try.ti37 rfl _) ?_
        clear hT; rintro _ w11 ⟨b3, rfl, N⟩ a hT
        replace H := H.new N; clear N
        refine Sx.st_act hT rfl rfl rfl (Sx.y_storeS hT rfl Try.ti37 rfl rfl rfl rfl rfl (H.blk 0 rfl) rfl) ?_
        rintro w12 ⟨hb, E, _⟩
        replace H := H.setB 0 rfl hb E rfl; clear hb E
        refine Sx.st_take hT rfl rfl rfl rfl (Sx.x_assign hT rfl rfl) ?_
        clear hT; intro a hT
        replace hT := hT.keep [13, 60, 12, 11, 46, 10, 9, 20, 6, 0, 1] rfl
        refine Sx.ser_nil ?_
        refine Sx.then_normal (hK30 _ _ ?_)
        clear hK30
        refine wp_seq_k fun K31 hK31 => ?_
        -- region 18 (ref.go:96)
        obtain ⟨r2, rfl⟩ : ∃ r, ro9 = some r := Option.isSome_iff_exists.1 (by rw [← hro]; exact hok i key (by omega) hkey)
        simp only [Option.getD_some] at hT H
        have hrid : rid D key = some r2.id := by unfold rid; rw [hro]; rfl
        refine Sx.wp_text [(0, .take)] rfl ?_
        refine Sx.st_take hT rfl rfl rfl rfl (Sx.x_assign hT rfl rfl) ?_
        clear hT; intro a hT
        replace hT := hT.keep [15, 13, 60, 12, 11, 46, 10, 9, 20, 6, 0, 1] rfl
        refine Sx.ser_nil ?_
        refine Sx.then_normal (hK31 _ _ ?_)
        clear hK31
        refine wp_seq_k fun K32 hK32 => ?_
        refine wp_seq_k fun K33 hK33 => ?_
        -- region 19 (ref.go:97)
        refine Sx.wp_text [(0, .take)] rfl ?_
        refine Sx.st_take hT rfl rfl rfl rfl (Sx.x_assign hT rfl rfl) ?_
        clear hT; intro a hT
        replace hT := hT.keep [16, 15, 13, 60, 12, 11, 46, 10, 9, 20, 6, 0, 1] rfl
        refine Sx.ser_nil ?_
        refine Sx.then_normal (hK33 _ _ ?_)
        clear hK33
        refine wp_block ?_
        -- loop 3
        refine Sx.wp_loopH (G := Nat) (fun j => [(16, .int .i64 (j : Int)), (15, .bool (decide (key ∈ ks.take j)))]) (fun j => []) (fun j => j ≤ i) (fun j => i - j) 0 (hT.keep [16, 15, 13, 60, 12, 11, 46, 10, 9, 20, 6, 0, 1] rfl) (H.keep [0, 1, 2, 3, 4] rfl rfl) (Nat.zero_le _) ?_
        clear hT H
        rintro j a w13 hJ hT H
        replace hT := hT.keep [16, 15, 13, 60, 12, 11, 46, 10, 9, 20, 6, 0, 1] rfl
        replace H := H.keep [0, 1, 2, 3, 4] rfl rfl
        have hj : j ≤ i := hJ
        refine wp_seq_k fun K34 hK34 => ?_
        refine wp_seq_k fun K35 hK35 => ?_
        -- region 20 (ref.go:97)
        refine Sx.wp_text [(0, .take), (1, .take), (2, .take)] rfl ?_
        refine Sx.st_take hT rfl rfl rfl rfl (Sx.x_move hT rfl rfl) ?_
        clear hT; intro a hT
        refine Sx.st_take hT rfl rfl rfl rfl (Sx.x_move hT rfl rfl) ?_
        clear hT; intro a hT
        refine Sx.st_take hT rfl rfl rfl rfl ((fun w => Sx.x_lt w hT rfl rfl rfl)) ?_
        clear hT; intro a hT
        replace hT := hT.keep [74, 16, 15, 13, 60, 12, 11, 46, 10, 9, 20, 6, 0, 1] rfl
        refine Sx.ser_nil ?_
        refine Sx.then_normal (hK35 _ _ ?_)
        clear hK35
        -- cond 5
        refine Sx.wp_if hT rfl (fun hc36 => ?_) (fun hc36 => ?_)
        · try simp only [decide_eq_true_eq, decide_eq_false_iff_not, Bool.not_eq_true', Bool.not_eq_false', Bool.not_eq_true, Bool.not_eq_false, Bool.and_eq_true, Bool.or_eq_false_iff, beq_iff_eq, bne_iff_ne, Int.not_lt, Int.not_le, ne_eq] at hc36
          obtain ⟨key3, hkey3⟩ : ∃ o, ks[j]? = some o := ⟨_, List.getElem?_eq_getElem (by omega)⟩
          refine wp_skip ?_
          refine Sx.then_normal (hK34 _ _ ?_)
          clear hK34
          refine wp_seq_k fun K37 hK37 => ?_
          refine wp_block ?_
          -- region 22 (ref.go:98)
          refine Sx.wp_draws (fun u => Sx.Ext (Sx.No) u) [(0, .take), (1, .take), (2, .take), (3, .take), (4, .take), (5, .held), (6, .take), (7, .take), (8, .take), (9, .held), (10, .take), (11, .take), (12, .take)] (by kernel_rfl) (by kernel_rfl) (fun u E _ => ?_)
          replace H := H.pure E; clear E
          have hH : Sx.Ext (Sx.No) u u := Sx.Ext.refl _ _
          have Hu := H
          refine Sx.st_take hT rfl rfl rfl rfl (Sx.x_move hT rfl rfl) ?_
          clear hT; intro a hT
          refine Sx.st_take hT rfl rfl rfl rfl (Sx.x_move hT rfl rfl) ?_
          clear hT; intro a hT
          -- guard (22, 1)
          refine Sx.Sl.two hT 78 rfl (fun hc38 hT => ?_) (fun hc38 hT => ?_)
          · try simp only [decide_eq_true_eq, decide_eq_false_iff_not, Bool.not_eq_true', Bool.not_eq_false', Bool.not_eq_true, Bool.not_eq_false, Bool.and_eq_true, Bool.or_eq_false_iff, beq_iff_eq, bne_iff_ne, Int.not_lt, Int.not_le, ne_eq] at hc38
            refine Sx.st_skip hT rfl rfl rfl rfl ?_
            clear hT; intro a hT
            refine Sx.st_skip hT rfl rfl rfl rfl ?_
            clear hT; intro a hT
            refine Sx.st_skip hT rfl rfl rfl rfl ?_
            clear hT; intro a hT
            refine Sx.st_heldskip hT rfl rfl rfl rfl hH ?_
            clear hT; intro a hT
            refine Sx.st_skip hT rfl rfl rfl rfl ?_
            clear hT; intro a hT
            refine Sx.st_skip hT rfl rfl rfl rfl ?_
            clear hT; intro a hT
            refine Sx.st_skip hT rfl rfl rfl rfl ?_
            clear hT; intro a hT
            refine Sx.st_heldskip hT rfl rfl rfl rfl hH ?_
            clear hT; intro a hT
            refine Sx.st_skip hT rfl rfl rfl rfl ?_
            clear hT; intro a hT
            refine Sx.st_take hT rfl rfl rfl rfl (Sx.x_pick_t hT rfl rfl rfl) ?_
            clear hT; intro a hT
            refine Sx.st_take hT rfl rfl rfl rfl (Sx.x_assign hT rfl rfl) ?_
            clear hT; intro a hT
            replace hT := hT.keep [15, 74, 16, 13, 60, 12, 11, 46, 10, 9, 20, 6, 0, 1] rfl
            clear Hu hH
            refine Sx.ser_calm ?_
            refine Sx.block_normal ?_
            refine Sx.then_normal (hK37 _ _ ?_)
            clear hK37
            -- region 21 (ref.go:97)
            refine Sx.wp_text [(0, .take), (1, .take), (2, .take)] rfl ?_
            refine Sx.st_take hT rfl rfl rfl rfl (Sx.x_move hT rfl rfl) ?_
            clear hT; intro a hT
            refine Sx.st_take hT rfl rfl rfl rfl ((fun w => Sx.x_add w hT rfl rfl rfl (Sx.wrap64 (by omega)))) ?_
            clear hT; intro a hT
            refine Sx.st_take hT rfl rfl rfl rfl (Sx.x_assign hT rfl rfl) ?_
            clear hT; intro a hT
            replace hT := hT.keep [16, 15, 74, 13, 60, 12, 11, 46, 10, 9, 20, 6, 0, 1] rfl
            refine Sx.ser_nil ?_
            refine Sx.then_normal ?_
            exact ⟨j + 1, (by omega), ((hT.keep [16, 15, 13, 60, 12, 11, 46, 10, 9, 20, 6, 0, 1] rfl).conv (by rw [mem_take hkey3]; simp_all)), (H.keep [0, 1, 2, 3, 4] rfl rfl), by omega⟩
          · try simp only [decide_eq_true_eq, decide_eq_false_iff_not, Bool.not_eq_true', Bool.not_eq_false', Bool.not_eq_true, Bool.not_eq_false, Bool.and_eq_true, Bool.or_eq_false_iff, beq_iff_eq, bne_iff_ne, Int.not_lt, Int.not_le, ne_eq] at hc38
            refine Sx.st_take hT rfl rfl rfl rfl (Sx.x_move hT rfl rfl) ?_
            clear hT; intro a hT
            refine Sx.st_take hT rfl rfl rfl rfl (Sx.x_move hT rfl rfl) ?_
            clear hT; intro a hT
            refine Sx.st_take hT rfl rfl rfl rfl (Sx.x_index (k := j) hT rfl Try.underlying25 Try.ti9 (by first | exact (R.at H.ext).sv | exact (RR9.at H.ext).sv) rfl rfl (by first | rfl | omega) (by omega)) ?_
            clear hT; intro a hT
            refine Sx.st_held hT rfl rfl rfl rfl hH (fun w' h' => Sx.x_load1 hT rfl Try.fl9 rfl (by first | exact ((Hu.heldB 0 rfl h' Sx.off_No).nth rfl) | exact ((Hu.heldB 1 rfl h' Sx.off_No).nth rfl) | exact ((R.at (Hu.ext.step h')).cell (j := 0) kc_len hkey rfl) | exact ((RP.at (Hu.ext.step h')).nth rfl) | exact ((R.at (Hu.ext.step h')).cell (j := 0) kc_len hkey3 rfl))) ?_
            clear hT; intro a hT
            refine Sx.st_take hT rfl rfl rfl rfl (Sx.x_move hT rfl rfl) ?_
            clear hT; intro a hT
            refine Sx.st_take hT rfl rfl rfl rfl (Sx.x_move hT rfl rfl) ?_
            clear hT; intro a hT
            refine Sx.st_take hT rfl rfl rfl rfl (Sx.x_index (k := i) hT rfl Try.underlying25 Try.ti9 (by first | exact (R.at H.ext).sv | exact (RR9.at H.ext).sv) rfl rfl (by first | rfl | omega) (by omega)) ?_
            clear hT; intro a hT
            refine Sx.st_held hT rfl rfl rfl rfl hH (fun w' h' => Sx.x_load1 hT rfl Try.fl9 rfl (by first | exact ((Hu.heldB 0 rfl h' Sx.off_No).nth rfl) | exact ((Hu.heldB 1 rfl h' Sx.off_No).nth rfl) | exact ((R.at (Hu.ext.step h')).cell (j := 0) kc_len hkey rfl) | exact ((RP.at (Hu.ext.step h')).nth rfl) | exact ((R.at (Hu.ext.step h')).cell (j := 0) kc_len hkey3 rfl))) ?_
            clear hT; intro a hT
            refine Sx.st_take hT rfl rfl rfl rfl ((fun w => Sx.x_streq w hT rfl rfl rfl)) ?_
            clear hT; intro a hT
            refine Sx.st_take hT rfl rfl rfl rfl (Sx.x_pick_f hT rfl rfl rfl) ?_
            clear hT; intro a hT
            refine Sx.st_take hT rfl rfl rfl rfl (Sx.x_assign hT rfl rfl) ?_
            clear hT; intro a hT
            replace hT := hT.keep [15, 74, 16, 13, 60, 12, 11, 46, 10, 9, 20, 6, 0, 1] rfl
            clear Hu hH
            refine Sx.ser_calm ?_
            refine Sx.block_normal ?_
            refine Sx.then_normal (hK37 _ _ ?_)
            clear hK37
            -- region 21 (ref.go:97)
            refine Sx.wp_text [(0, .take), (1, .take), (2, .take)] rfl ?_
            refine Sx.st_take hT rfl rfl rfl rfl (Sx.x_move hT rfl rfl) ?_
            clear hT; intro a hT
            refine Sx.st_take hT rfl rfl rfl rfl ((fun w => Sx.x_add w hT rfl rfl rfl (Sx.wrap64 (by omega)))) ?_
            clear hT; intro a hT
            refine Sx.st_take hT rfl rfl rfl rfl (Sx.x_assign hT rfl rfl) ?_
            clear hT; intro a hT
            replace hT := hT.keep [16, 15, 74, 13, 60, 12, 11, 46, 10, 9, 20, 6, 0, 1] rfl
            refine Sx.ser_nil ?_
            refine Sx.then_normal ?_
            exact ⟨j + 1, (by omega), ((hT.keep [16, 15, 13, 60, 12, 11, 46, 10, 9, 20, 6, 0, 1] rfl).conv (by rw [mem_take hkey3]; simp_all)), (H.keep [0, 1, 2, 3, 4] rfl rfl), by omega⟩
        · try simp only [decide_eq_true_eq, decide_eq_false_iff_not, Bool.not_eq_true', Bool.not_eq_false', Bool.not_eq_true, Bool.not_eq_false, Bool.and_eq_true, Bool.or_eq_false_iff, beq_iff_eq, bne_iff_ne, Int.not_lt, Int.not_le, ne_eq] at hc36
          have hji : j = i := by omega
          rw [hji] at hT
          refine wp_exit ?_
          refine Sx.then_exit ?_
          refine Sx.then_exit ?_
          refine Sx.block_exit ?_
          refine Sx.then_normal (hK32 _ _ ?_)
          clear hK32
          refine wp_seq_k fun K39 hK39 => ?_
          -- region 23 (ref.go:100)
          refine Sx.wp_text [(0, .take), (1, .run), (2, .take), (3, .take), (4, .run), (5, .take), (6, .take), (7, .take), (8, .take), (9, .take)] rfl ?_
          refine Sx.st_take hT rfl rfl rfl rfl (Sx.x_fieldAddr hT rfl Try.fa37_0 rfl) ?_
          clear hT; intro a hT
          refine Sx.st_run hT rfl rfl rfl rfl (Sx.x_load1 hT rfl Try.fl3 rfl ((H.blk 0 rfl).nth rfl)) ?_
          clear hT; intro a hT
          refine Sx.st_take hT rfl rfl rfl rfl (Sx.x_fieldAddr hT rfl Try.fa88_0 rfl) ?_
          clear hT; intro a hT
          refine Sx.st_take hT rfl rfl rfl rfl (Sx.x_fieldAddr hT rfl Try.fa37_0 rfl) ?_
          clear hT; intro a hT
          refine Sx.st_run hT rfl rfl rfl rfl (Sx.x_load1 hT rfl Try.fl3 rfl ((H.blk 1 rfl).nth rfl)) ?_
          clear hT; intro a hT
          refine Sx.st_take hT rfl rfl rfl rfl ((fun w => Sx.x_eq w hT rfl rfl rfl)) ?_
          clear hT; intro a hT
          refine Sx.st_take hT rfl rfl rfl rfl (Sx.x_move hT rfl rfl) ?_
          clear hT; intro a hT
          -- guard (23, 6)
          refine Sx.Sl.two hT 95 rfl (fun hc40 hT => ?_) (fun hc40 hT => ?_)
          · try simp only [decide_eq_true_eq, decide_eq_false_iff_not, Bool.not_eq_true', Bool.not_eq_false', Bool.not_eq_true, Bool.not_eq_false, Bool.and_eq_true, Bool.or_eq_false_iff, beq_iff_eq, bne_iff_ne, Int.not_lt, Int.not_le, ne_eq] at hc40
            have hid9 : r2.id = r.id := hc40
            refine Sx.st_take hT rfl rfl rfl rfl (Sx.x_move hT rfl rfl) ?_
            clear hT; intro a hT
            refine Sx.st_take hT rfl rfl rfl rfl (Sx.x_not hT rfl rfl) ?_
            clear hT; intro a hT
            refine Sx.st_take hT rfl rfl rfl rfl (Sx.x_pick_t hT rfl rfl rfl) ?_
            clear hT; intro a hT
            replace hT := hT.keep [98, 74, 16, 15, 13, 60, 12, 11, 46, 10, 9, 20, 6, 0, 1] rfl
            refine Sx.ser_nil ?_
            refine Sx.then_normal (hK39 _ _ ?_)
            clear hK39
            -- cond 6
            refine Sx.wp_if hT rfl (fun hc41 => ?_) (fun hc41 => ?_)
            · try simp only [decide_eq_true_eq, decide_eq_false_iff_not, Bool.not_eq_true', Bool.not_eq_false', Bool.not_eq_true, Bool.not_eq_false, Bool.and_eq_true, Bool.or_eq_false_iff, beq_iff_eq, bne_iff_ne, Int.not_lt, Int.not_le, ne_eq] at hc41
              have htw : key ∉ ks.take i := by simpa using hc41
              -- region 24 (ref.go:101)
              refine Sx.wp_draws (fun u => Sx.Ext (Sx.Own ad4) u) [(0, .take), (1, .held), (2, .take), (3, .take), (4, .take), (5, .held), (6, .keep), (7, .run), (8, .take), (9, .run)] (by kernel_rfl) (by kernel_rfl) (fun u E _ => ?_)
              replace H := H.pure E; clear E
              have hH : Sx.Ext (Sx.Own ad4) u u := Sx.Ext.refl _ _
              have Hu := H
              refine Sx.st_take hT rfl rfl rfl rfl (Sx.x_fieldAddr hT rfl Try.fa88_1 rfl) ?_
              clear hT; intro a hT
              refine Sx.st_held hT rfl rfl rfl rfl hH (fun w' h' => Sx.x_load1 hT rfl Try.fl25 rfl ((Hu.heldB 1 rfl h' (Hu.off 1 2 rfl rfl rfl)).nth rfl)) ?_
              clear hT; intro a hT
              refine Sx.st_take hT rfl rfl rfl rfl (Sx.x_move hT rfl rfl) ?_
              clear hT; intro a hT
              refine Sx.st_take hT rfl rfl rfl rfl (Sx.x_move hT rfl rfl) ?_
              clear hT; intro a hT
              refine Sx.st_take hT rfl rfl rfl rfl (Sx.x_index (k := i) hT rfl Try.underlying25 Try.ti9 (by first | exact (R.at H.ext).sv | exact (RR9.at H.ext).sv) rfl rfl (by first | rfl | omega) (by omega)) ?_
              clear hT; intro a hT
              refine Sx.st_held hT rfl rfl rfl rfl hH (fun w' h' => Sx.x_load1 hT rfl Try.fl9 rfl (by first | exact ((Hu.heldB 0 rfl h' (Hu.off 0 2 rfl rfl rfl)).nth rfl) | exact ((Hu.heldB 1 rfl h' (Hu.off 1 2 rfl rfl rfl)).nth rfl) | exact ((R.at (Hu.extT 2 rfl h')).cell (j := 0) kc_len hkey rfl) | exact ((RP.at (Hu.extT 2 rfl h')).nth rfl) | exact ((R.at (Hu.extT 2 rfl h')).cell (j := 0) kc_len hkey3 rfl))) ?_
              clear hT; intro a hT
              refine Sx.st_effkeep hT rfl rfl rfl rfl (Sx.y_slice1 hT rfl Try.underlying25 Try.ti9 rfl rfl rfl rfl rfl rfl _) ?_
              rintro _ w14 ⟨b4, rfl, N⟩
              have q_b4 : u.heap.size ≤ b4 := by have h8 := hH.size; have h9 := N.at_; omega
              refine ⟨hH.step N.ext, ?_⟩
              replace hH := hH.step N.ext
              clear hT; intro a hT
              replace H := H.new N; clear N
              refine Sx.st_eff hT rfl rfl rfl rfl (Sx.x_append hT rfl rfl Try.underlying25 Try.ti9 rfl (by decide) rfl rfl (H.row 3 rfl) ((H.blk 0 rfl).sv1 rfl) (by simp [Value.oneCell']) (fun h => by cases h) (by unfold maxLen; omega) (by omega)) ?_
              rintro _ w15 ⟨ad15, c15, rfl, hr, E, hown, -⟩
              clear hT; intro a hT
              replace H := H.setR 3 rfl hr E hown rfl; clear hr E hown
              rw [show (fil D r.id (ks.take i)).length + 1 = (fil D r.id (ks.take i) ++ [key]).length from by simp] at H hT
              rw [show (fil D r.id (ks.take i)).flatMap kc ++ [.string ⟨key.toArray⟩] = (fil D r.id (ks.take i) ++ [key]).flatMap kc from by rw [List.flatMap_append]; rfl] at H
              refine Sx.st_take hT rfl rfl rfl rfl (Sx.x_fieldAddr hT rfl Try.fa88_1 rfl) ?_
              clear hT; intro a hT
              refine Sx.st_act hT rfl rfl rfl (Sx.y_store1 hT rfl Try.ti25 rfl rfl rfl (H.blk 2 rfl) rfl) ?_
              rintro w16 ⟨hb, E, _⟩
              replace H := H.setB 2 rfl hb E rfl; clear hb E
              replace hT := hT.keep [98, 74, 16, 15, 13, 60, 12, 11, 46, 10, 9, 20, 6, 0, 1] rfl
              clear Hu hH
              refine Sx.ser_calm ?_
              refine Sx.block_normal ?_
              refine Sx.then_normal (hK29 _ _ ?_)
              clear hK29
              -- region 16 (ref.go:94)
              refine Sx.wp_text [(0, .take), (1, .take), (2, .take)] rfl ?_
              refine Sx.st_take hT rfl rfl rfl rfl (Sx.x_move hT rfl rfl) ?_
              clear hT; intro a hT
              refine Sx.st_take hT rfl rfl rfl rfl ((fun w => Sx.x_add w hT rfl rfl rfl (Sx.wrap64 (by omega)))) ?_
              clear hT; intro a hT
              refine Sx.st_take hT rfl rfl rfl rfl (Sx.x_assign hT rfl rfl) ?_
              clear hT; intro a hT
              replace hT := hT.keep [12, 98, 74, 16, 15, 13, 60, 11, 46, 10, 9, 20, 6, 0, 1] rfl
              refine Sx.ser_nil ?_
              refine Sx.then_normal ?_
              have hfs : fil D r.id (ks.take (i + 1)) = fil D r.id (ks.take i) ++ [key] := by
                rw [take_app hkey, fil_app]
                unfold fil1
                exact if_pos ⟨by rw [hrid, hid9], fun h9 => htw (fil_mem.1 h9).1⟩
              rw [← hfs] at H
              exact ⟨(i + 1, ad15, c15), (show i + 1 ≤ _ by omega), (hT.keep [12, 11, 46, 10, 9, 20, 6, 0, 1] rfl), (H.keep [2, 3, 4, 5] rfl rfl), by show _ - (i + 1) < _ - i; omega⟩
            · try simp only [decide_eq_true_eq, decide_eq_false_iff_not, Bool.not_eq_true', Bool.not_eq_false', Bool.not_eq_true, Bool.not_eq_false, Bool.and_eq_true, Bool.or_eq_false_iff, beq_iff_eq, bne_iff_ne, Int.not_lt, Int.not_le, ne_eq] at hc41
              have htw : key ∈ ks.take i := by simpa using hc41
              refine wp_skip ?_
              refine Sx.block_normal ?_
              refine Sx.then_normal (hK29 _ _ ?_)
              clear hK29
              -- region 16 (ref.go:94)
              refine Sx.wp_text [(0, .take), (1, .take), (2, .take)] rfl ?_
              refine Sx.st_take hT rfl rfl rfl rfl (Sx.x_move hT rfl rfl) ?_
              clear hT; intro a hT
              refine Sx.st_take hT rfl rfl rfl rfl ((fun w => Sx.x_add w hT rfl rfl rfl (Sx.wrap64 (by omega)))) ?_
              clear hT; intro a hT
              refine Sx.st_take hT rfl rfl rfl rfl (Sx.x_assign hT rfl rfl) ?_
              clear hT; intro a hT
              replace hT := hT.keep [12, 98, 74, 16, 15, 13, 60, 11, 46, 10, 9, 20, 6, 0, 1] rfl
              refine Sx.ser_nil ?_
              refine Sx.then_normal ?_
              have hfs : fil D r.id (ks.take (i + 1)) = fil D r.id (ks.take i) := by
                rw [take_app hkey, fil_app]
                unfold fil1
                exact if_neg (fun h9 => h9.2 (fil_mem.2 ⟨htw, h9.1⟩))
              rw [← hfs] at H
              exact ⟨(i + 1, ad4, c4), (show i + 1 ≤ _ by omega), (hT.keep [12, 11, 46, 10, 9, 20, 6, 0, 1] rfl), (H.keep [1, 2, 3, 4] rfl rfl), by show _ - (i + 1) < _ - i; omega⟩
          · try simp only [decide_eq_true_eq, decide_eq_false_iff_not, Bool.not_eq_true', Bool.not_eq_false', Bool.not_eq_true, Bool.not_eq_false, Bool.and_eq_true, Bool.or_eq_false_iff, beq_iff_eq, bne_iff_ne, Int.not_lt, Int.not_le, ne_eq] at hc40
            have hid9 : ¬ r2.id = r.id := hc40
            refine Sx.st_skip hT rfl rfl rfl rfl ?_
            clear hT; intro a hT
            refine Sx.st_skip hT rfl rfl rfl rfl ?_
            clear hT; intro a hT
            refine Sx.st_take hT rfl rfl rfl rfl (Sx.x_pick_f hT rfl rfl rfl) ?_
            clear hT; intro a hT
            replace hT := hT.keep [98, 74, 16, 15, 13, 60, 12, 11, 46, 10, 9, 20, 6, 0, 1] rfl
            refine Sx.ser_nil ?_
            refine Sx.then_normal (hK39 _ _ ?_)
            clear hK39
            refine Sx.wp_if hT rfl (fun h => by cases h) (fun _ => ?_)
            skip
            refine wp_skip ?_
            refine Sx.block_normal ?_
            refine Sx.then_normal (hK29 _ _ ?_)
            clear hK29
            -- region 16 (ref.go:94)
            refine Sx.wp_text [(0, .take), (1, .take), (2, .take)] rfl ?_
            refine Sx.st_take hT rfl rfl rfl rfl (Sx.x_move hT rfl rfl) ?_
            clear hT; intro a hT
            refine Sx.st_take hT rfl rfl rfl rfl ((fun w => Sx.x_add w hT rfl rfl rfl (Sx.wrap64 (by omega)))) ?_
            clear hT; intro a hT
            refine Sx.st_take hT rfl rfl rfl rfl (Sx.x_assign hT rfl rfl) ?_
            clear hT; intro a hT
            replace hT := hT.keep [12, 98, 74, 16, 15, 13, 60, 11, 46, 10, 9, 20, 6, 0, 1] rfl
            refine Sx.ser_nil ?_
            refine Sx.then_normal ?_
            have hfs : fil D r.id (ks.take (i + 1)) = fil D r.id (ks.take i) := by
              rw [take_app hkey, fil_app]
              unfold fil1
              exact if_neg (fun h9 => hid9 (by have h8 := h9.1; rw [hrid] at h8; exact Option.some.inj h8))
            rw [← hfs] at H
            exact ⟨(i + 1, ad4, c4), (show i + 1 ≤ _ by omega), (hT.keep [12, 11, 46, 10, 9, 20, 6, 0, 1] rfl), (H.keep [1, 2, 3, 4] rfl rfl), by show _ - (i + 1) < _ - i; omega⟩
      · try simp only [decide_eq_true_eq, decide_eq_false_iff_not, Bool.not_eq_true', Bool.not_eq_false', Bool.not_eq_true, Bool.not_eq_false, Bool.and_eq_true, Bool.or_eq_false_iff, beq_iff_eq, bne_iff_ne, Int.not_lt, Int.not_le, ne_eq] at hc28
        have hil : i = ks.length := by omega
        rw [hil, List.take_length] at H
        rw [hil, List.take_length] at hfl
        refine wp_exit ?_
        refine Sx.then_exit ?_
        refine Sx.then_exit ?_
        refine Sx.block_exit ?_
        refine Sx.then_normal (hK24 _ _ ?_)
        clear hK24
        refine wp_seq_k fun K42 hK42 => ?_
        -- region 25 (ref.go:104)
        refine Sx.wp_text [(0, .take), (1, .run), (2, .take), (3, .take)] rfl ?_
        refine Sx.st_take hT rfl rfl rfl rfl (Sx.x_fieldAddr hT rfl Try.fa88_1 rfl) ?_
        clear hT; intro a hT
        refine Sx.st_run hT rfl rfl rfl rfl (Sx.x_load1 hT rfl Try.fl25 rfl ((H.blk 0 rfl).nth rfl)) ?_
        clear hT; intro a hT
        refine Sx.st_take hT rfl rfl rfl rfl (Sx.x_len_slice hT rfl rfl Try.underlying25 rfl) ?_
        clear hT; intro a hT
        refine Sx.st_take hT rfl rfl rfl rfl ((fun w => Sx.x_gt w hT rfl rfl rfl)) ?_
        clear hT; intro a hT
        replace hT := hT.keep [111, 60, 12, 11, 46, 10, 9, 20, 6, 0, 1] rfl
        refine Sx.ser_nil ?_
        refine Sx.then_normal (hK42 _ _ ?_)
        clear hK42
        -- cond 7
        refine Sx.wp_if hT rfl (fun hc43 => ?_) (fun hc43 => ?_)
        · try simp only [decide_eq_true_eq, decide_eq_false_iff_not, Bool.not_eq_true', Bool.not_eq_false', Bool.not_eq_true, Bool.not_eq_false, Bool.and_eq_true, Bool.or_eq_false_iff, beq_iff_eq, bne_iff_ne, Int.not_lt, Int.not_le, ne_eq] at hc43
          have hfn : fil D r.id ks ≠ [] := fun h9 => by rw [h9] at hc43; simp at hc43
          -- region 26 (ref.go:105)
          obtain ⟨gn, hgn⟩ : ∃ g : Gr, g = ⟨r, ad4, c4, fil D r.id ks⟩ := ⟨_, rfl⟩
          skip
          refine Sx.wp_text [(0, .take), (1, .run), (2, .run), (3, .run), (4, .take)] rfl ?_
          refine Sx.st_take hT rfl rfl rfl rfl (Sx.x_move hT rfl rfl) ?_
          clear hT; intro a hT
          refine Sx.st_run hT rfl rfl rfl rfl (Sx.y_loadS hT rfl Try.underlying88 Try.ti88 rfl ((H.blk 0 rfl).seg (k := 5) rfl) (by rfl)) ?_
          clear hT; intro a hT
          refine Sx.st_eff hT rfl rfl rfl rfl (Sx.y_slice1 hT rfl Try.underlying59 Try.ti88 rfl rfl rfl rfl rfl rfl _) ?_
          clear hT; rintro _ w17 ⟨b5, rfl, N⟩ a hT
          replace H := H.new N; clear N
          refine Sx.st_eff hT rfl rfl rfl rfl (Sx.x_append hT rfl rfl Try.underlying59 Try.ti88 rfl (by decide) rfl rfl (H.row 3 rfl) ((H.blk 0 rfl).sv1 rfl) (by simp [Value.oneCell']) (fun h => by cases h) (by unfold maxLen; omega) (by omega)) ?_
          rintro _ w18 ⟨ad18, c18, rfl, hr, E, hown, -⟩
          clear hT; intro a hT
          replace H := H.setR 3 rfl hr E hown rfl; clear hr E hown
          refine Sx.st_take hT rfl rfl rfl rfl (Sx.x_assign hT rfl rfl) ?_
          clear hT; intro a hT
          replace hT := hT.keep [9, 111, 60, 12, 11, 46, 10, 20, 6, 0, 1] rfl
          refine Sx.ser_nil ?_
          refine Sx.block_normal ?_
          refine Sx.then_normal (hK22 _ _ ?_)
          clear hK22
          -- region 12 (ref.go:92)
          refine Sx.wp_text [(0, .take), (1, .take), (2, .take)] rfl ?_
          refine Sx.st_take hT rfl rfl rfl rfl (Sx.x_move hT rfl rfl) ?_
          clear hT; intro a hT
          refine Sx.st_take hT rfl rfl rfl rfl ((fun w => Sx.x_add w hT rfl rfl rfl (Sx.wrap64 (by omega)))) ?_
          clear hT; intro a hT
          refine Sx.st_take hT rfl rfl rfl rfl (Sx.x_assign hT rfl rfl) ?_
          clear hT; intro a hT
          replace hT := hT.keep [10, 9, 111, 60, 12, 11, 46, 20, 6, 0, 1] rfl
          refine Sx.ser_nil ?_
          refine Sx.then_normal ?_
          replace H := H.famPut (x := gn) 4 2 rfl rfl (by rw [hgn]; rfl) rfl [0, 1, 3] rfl rfl (List.perm_append_singleton gn L2)
          rw [show L2.length + 1 = (L2 ++ [gn]).length from by simp] at H hT
          rw [show L2.flatMap Gr.cells ++ [.int .i64 r.id, .int .i64 r.epoch, .float .f64 r.lo, .float .f64 r.hi, .slice ad4 (fil D r.id ks).length c4] = (L2 ++ [gn]).flatMap Gr.cells from by rw [List.flatMap_append, hgn]; rfl] at H
          exact ⟨(q + 1, ad18, c18, L2 ++ [gn]), ⟨by show q + 1 ≤ _; omega, by show List.map _ (L2 ++ [gn]) = specE D (D.take (q + 1)) ks; rw [specE_yes hr hfn, List.map_append, hsp, hgn]; rfl, by show List.length (L2 ++ [gn]) ≤ q + 1; simp; omega⟩, (hT.keep [10, 9, 20, 6, 0, 1] rfl), (H.keep [3, 0] rfl rfl), by show _ - (q + 1) < _ - q; omega⟩
        · try simp only [decide_eq_true_eq, decide_eq_false_iff_not, Bool.not_eq_true', Bool.not_eq_false', Bool.not_eq_true, Bool.not_eq_false, Bool.and_eq_true, Bool.or_eq_false_iff, beq_iff_eq, bne_iff_ne, Int.not_lt, Int.not_le, ne_eq] at hc43
          have hfn : fil D r.id ks = [] := List.eq_nil_of_length_eq_zero (by omega)
          refine wp_skip ?_
          refine Sx.block_normal ?_
          refine Sx.then_normal (hK22 _ _ ?_)
          clear hK22
          -- region 12 (ref.go:92)
          refine Sx.wp_text [(0, .take), (1, .take), (2, .take)] rfl ?_
          refine Sx.st_take hT rfl rfl rfl rfl (Sx.x_move hT rfl rfl) ?_
          clear hT; intro a hT
          refine Sx.st_take hT rfl rfl rfl rfl ((fun w => Sx.x_add w hT rfl rfl rfl (Sx.wrap64 (by omega)))) ?_
          clear hT; intro a hT
          refine Sx.st_take hT rfl rfl rfl rfl (Sx.x_assign hT rfl rfl) ?_
          clear hT; intro a hT
          replace hT := hT.keep [10, 111, 60, 12, 11, 46, 9, 20, 6, 0, 1] rfl
          refine Sx.ser_nil ?_
          refine Sx.then_normal ?_
          skip
          exact ⟨(q + 1, ad3, c3, L2), ⟨by show q + 1 ≤ _; omega, by show List.map _ L2 = specE D (D.take (q + 1)) ks; rw [specE_no hr hfn, hsp], by show L2.length ≤ q + 1; omega⟩, (hT.keep [10, 9, 20, 6, 0, 1] rfl), (H.keep [2, 3] rfl rfl), by show _ - (q + 1) < _ - q; omega⟩
    · try simp only [decide_eq_true_eq, decide_eq_false_iff_not, Bool.not_eq_true', Bool.not_eq_false', Bool.not_eq_true, Bool.not_eq_false, Bool.and_eq_true, Bool.or_eq_false_iff, beq_iff_eq, bne_iff_ne, Int.not_lt, Int.not_le, ne_eq] at hc21
      have hqD : q = D.length := by omega
      rw [hqD, List.take_length] at hsp
      refine wp_exit ?_
      refine Sx.then_exit ?_
      refine Sx.then_exit ?_
      refine Sx.block_exit ?_
      refine Sx.then_normal (hK17 _ _ ?_)
      clear hK17
      refine wp_seq_k fun K44 hK44 => ?_
      -- region 27 (ref.go:108)
      refine Sx.wp_text [(0, .take), (1, .take), (2, .take)] rfl ?_
      refine Sx.st_take hT rfl rfl rfl rfl (Sx.x_move hT rfl rfl) ?_
      clear hT; intro a hT
      refine Sx.st_take hT rfl rfl rfl rfl (Sx.x_assign hT rfl rfl) ?_
      clear hT; intro a hT
      refine Sx.st_take hT rfl rfl rfl rfl (Sx.x_assign hT rfl rfl) ?_
      clear hT; intro a hT
      replace hT := hT.keep [5, 4, 46, 10, 9, 20, 6, 0, 1] rfl
      refine Sx.ser_nil ?_
      refine Sx.then_normal (hK44 _ _ ?_)
      clear hK44
      refine wp_ret ?_
      refine Sx.done2 (fn := Try.f24) hT rfl (.tmp (hT.get 4 _ rfl)) (.tmp (hT.get 5 _ rfl)) ?_
      refine ⟨_, _, L2, ?_, H.keep [0, 1] rfl rfl, ?_⟩
      · rw [hee]
      · rw [if_pos hee]; exact hsp

end Go.Proofs.Ytakohabmcgponaa
