/- Walks: the groups of a view. -/
import Derived.Test.YtakjfnckbidbcaaVI
set_option linter.unusedSimpArgs false
set_option linter.unusedVariables false
namespace Go.Proofs.Ytakjfnckbidbcaa
open Sx
theorem Try.fa79_0 : Sx.FA Try.prog 79 0 0 := ⟨_, _, _, _, _, Try.underlying79, rfl, rfl, Try.ti3, by decide⟩
theorem Try.can15 : Sx.Can Try.prog 15 := ⟨_, Try.func15, by kernel_rfl, rfl⟩
theorem Try.can39 : Sx.Can Try.prog 39 := ⟨_, Try.func39, by kernel_rfl, rfl⟩
theorem Try.can40 : Sx.Can Try.prog 40 := ⟨_, Try.func40, by kernel_rfl, rfl⟩
theorem look_v {L : List Wt} {x : Wt} (hs : SrtK slt Wt.key L) (h : x ∈ L) (z : Value) : atV (tw L) (slit x.key) z = .agg #[.int .i64 x.v.k, .float .f64 x.v.num, .string ⟨x.v.tx.toArray⟩] := (lookK_yes (sO.get_mem hs h) z).1

theorem Groups_calls {p cut b : Nat} {h : Stp} {L : List Wt} {w : World} (hB : Blk w p (vwc (cut : Int) b h) 79) (hM : Mp Try.prog 9 w b (tw L)) (hs : SrtK slt Wt.key L) (hL : L.length ≤ 1000000) (hcut : cut ≤ 24) (hb : ∀ x ∈ L, x.key.length ≤ 140737488351232) : Calls Try.prog 15 #[.pointer (some ⟨p, 0, none⟩)] w fun e w' => ∃ ad' c', e = .returned (.slice ad' (groupsF cut L).length c') ∧ Hp w No w' [cR 56 6 ad' (groupsF cut L).length c' ((groupsF cut L).flatMap G6.cells)] := by
  have RB : Ro w No _ := Ro.of fun w' x => hB.ext_no x
  refine Sx.calls_into Try.func15 rfl Try.ntmps15 rfl fun a hT => ?_
  replace hT := hT.keep [0] rfl
  have H : Sx.Hp w (Sx.No) w [] := Sx.Hp.start _ _
  refine wp_seq_k fun K1 hK1 => ?_
  -- region 0 (view.go:62)
  refine Sx.wp_text [(0, .take)] rfl ?_
  refine Sx.st_take hT rfl rfl rfl rfl (Sx.x_assign hT rfl rfl) ?_
  clear hT; intro a hT
  replace hT := hT.keep [2, 0] rfl
  refine Sx.ser_nil ?_
  refine Sx.then_normal (hK1 _ _ ?_)
  clear hK1
  refine wp_seq_k fun K2 hK2 => ?_
  -- region 1 (view.go:63)
  refine Sx.wp_text [(0, .take)] rfl ?_
  refine Sx.st_take hT rfl rfl rfl rfl (Sx.x_assign hT rfl rfl) ?_
  clear hT; intro a hT
  replace hT := hT.keep [3, 2, 0] rfl
  refine Sx.ser_nil ?_
  refine Sx.then_normal (hK2 _ _ ?_)
  clear hK2
  refine wp_seq_k fun K3 hK3 => ?_
  refine wp_seq_k fun K4 hK4 => ?_
  -- region 2 (view.go:64)
  refine Sx.wp_text [(0, .take), (1, .take), (2, .take), (3, .run), (4, .run), (5, .run), (6, .take), (7, .take)] rfl ?_
  refine Sx.st_take hT rfl rfl rfl rfl (Sx.x_move hT rfl rfl) ?_
  clear hT; intro a hT
  refine Sx.st_take hT rfl rfl rfl rfl (Sx.x_nilCheck hT rfl rfl) ?_
  clear hT; intro a hT
  refine Sx.st_take hT rfl rfl rfl rfl (Sx.x_fieldAddr hT rfl Try.fa79_1 rfl) ?_
  clear hT; intro a hT
  refine Sx.st_run hT rfl rfl rfl rfl (Sx.x_load1 hT rfl Try.fl77 rfl (by first | exact ((RB.at H.ext).nth (j := 1) rfl) | exact ((RB.at H.ext).nth (j := 0) rfl))) ?_
  clear hT; intro a hT
  have hM1 := hM.ext H.ext (not_No _)
  refine Sx.st_call hT rfl rfl rfl rfl rfl Try.can40 rfl (KeysS40_calls _ _) ?_
  rintro _ w1 ⟨rfl, E, ew⟩
  refine ⟨_, rfl, ?_⟩
  clear hT; intro a hT
  replace H := H.pure E; clear E
  refine Sx.st_call hT rfl rfl rfl rfl rfl Try.can39 rfl (SortedS40_calls hM1 ew hs hL) ?_
  rintro _ w2 ⟨ad1, c1, rfl, K⟩
  refine ⟨_, rfl, ?_⟩
  clear hT; intro a hT
  replace H := H.more K rfl; clear K
  refine Sx.st_take hT rfl rfl rfl rfl (Sx.x_len_slice hT rfl rfl Try.underlying85 rfl) ?_
  clear hT; intro a hT
  refine Sx.st_take hT rfl rfl rfl rfl (Sx.x_move hT rfl rfl) ?_
  clear hT; intro a hT
  replace hT := hT.keep [13, 12, 11, 3, 2, 0] rfl
  refine Sx.ser_nil ?_
  refine Sx.then_normal (hK4 _ _ ?_)
  clear hK4
  refine wp_block ?_
  replace H := H.nilR 69 4
  -- loop 0
  refine Sx.wp_loopH (G := Nat × Option Addr × Nat) (fun ⟨k, ad2, c2⟩ => [(13, .int .i64 (k : Int)), (3, .slice ad2 k c2)]) (fun ⟨k, ad2, c2⟩ => [cR 69 4 ad2 k c2 ((L.take k).flatMap Wt.cells)]) (fun ⟨k, ad2, c2⟩ => k ≤ L.length) (fun ⟨k, ad2, c2⟩ => L.length - k) (0, none, 0) (hT.keep [13, 3, 12, 11, 2, 0] rfl) (H.keep [0, 1] rfl rfl) ((Nat.zero_le _)) ?_
  clear hT H
  rintro ⟨k, ad2, c2⟩ a w3 hJ hT H
  replace hT := hT.keep [13, 3, 12, 11, 2, 0] rfl
  replace H := H.keep [0, 1] rfl rfl
  have hk : k ≤ L.length := hJ
  refine wp_seq_k fun K5 hK5 => ?_
  -- region 3 (view.go:64)
  refine Sx.wp_text [(0, .take)] rfl ?_
  refine Sx.st_take hT rfl rfl rfl rfl ((fun w => Sx.x_lt w hT rfl rfl rfl)) ?_
  clear hT; intro a hT
  replace hT := hT.keep [14, 13, 3, 12, 11, 2, 0] rfl
  refine Sx.ser_nil ?_
  refine Sx.then_normal (hK5 _ _ ?_)
  clear hK5
  refine wp_seq_k fun K6 hK6 => ?_
  -- cond 0
  refine Sx.wp_if hT rfl (fun hc7 => ?_) (fun hc7 => ?_)
  · try simp only [decide_eq_true_eq, decide_eq_false_iff_not, Bool.not_eq_true', Bool.not_eq_false', Bool.not_eq_true, Bool.not_eq_false, Bool.and_eq_true, Bool.or_eq_false_iff, beq_iff_eq, bne_iff_ne, Int.not_lt, Int.not_le, ne_eq] at hc7
    obtain ⟨o, ho⟩ : ∃ o, L[k]? = some o := ⟨_, List.getElem?_eq_getElem (by omega)⟩
    have hob := hb o (List.mem_of_getElem? ho)
    have hok : (L.map Wt.key)[k]? = some o.key := by rw [List.getElem?_map, ho]; rfl
    refine wp_skip ?_
    refine Sx.then_normal (hK6 _ _ ?_)
    clear hK6
    refine wp_seq_k fun K8 hK8 => ?_
    refine wp_block ?_
    refine wp_seq_k fun K9 hK9 => ?_
    -- region 4 (view.go:64)
    refine Sx.wp_text [(0, .take), (1, .run), (2, .take)] rfl ?_
    refine Sx.st_take hT rfl rfl rfl rfl (Sx.x_index (k := k) hT rfl Try.underlying85 Try.ti9 (H.row 1 rfl).sv rfl rfl (by first | rfl | omega) (by omega)) ?_
    clear hT; intro a hT
    refine Sx.st_run hT rfl rfl rfl rfl (Sx.x_load1 hT rfl Try.fl9 rfl (by first | exact ((RB.at H.ext).nth (j := 1) rfl) | exact ((RB.at H.ext).nth (j := 0) rfl) | exact (((H.row 1 rfl).ssn (by rw [List.length_map])).cell (j := 0) kc_len hok rfl))) ?_
    clear hT; intro a hT
    refine Sx.st_take hT rfl rfl rfl rfl (Sx.x_assign hT rfl rfl) ?_
    clear hT; intro a hT
    replace hT := hT.keep [5, 14, 13, 3, 12, 11, 2, 0] rfl
    refine Sx.ser_nil ?_
    refine Sx.then_normal (hK9 _ _ ?_)
    clear hK9
    -- region 5 (view.go:65)
    refine Sx.wp_text [(0, .take), (1, .take), (2, .take), (3, .take), (4, .take), (5, .run), (6, .take), (7, .run), (8, .take), (9, .run), (10, .run), (11, .take)] rfl ?_
    refine Sx.st_take hT rfl rfl rfl rfl (Sx.x_move hT rfl rfl) ?_
    clear hT; intro a hT
    refine Sx.st_take hT rfl rfl rfl rfl (Sx.x_move hT rfl rfl) ?_
    clear hT; intro a hT
    refine Sx.st_take hT rfl rfl rfl rfl (Sx.x_move hT rfl rfl) ?_
    clear hT; intro a hT
    refine Sx.st_take hT rfl rfl rfl rfl (Sx.x_nilCheck hT rfl rfl) ?_
    clear hT; intro a hT
    refine Sx.st_take hT rfl rfl rfl rfl (Sx.x_fieldAddr hT rfl Try.fa79_1 rfl) ?_
    clear hT; intro a hT
    refine Sx.st_run hT rfl rfl rfl rfl (Sx.x_load1 hT rfl Try.fl77 rfl (by first | exact ((RB.at H.ext).nth (j := 1) rfl) | exact ((RB.at H.ext).nth (j := 0) rfl) | exact (((H.row 1 rfl).ssn (by rw [List.length_map])).cell (j := 0) kc_len hok rfl))) ?_
    clear hT; intro a hT
    refine Sx.st_take hT rfl rfl rfl rfl (Sx.x_move hT rfl rfl) ?_
    clear hT; intro a hT
    refine Sx.st_run hT rfl rfl rfl rfl (Sx.x_lookup hT rfl Try.underlying77 (Go.Maps.string_keyed Try.underlying9) Try.ti48 rfl rfl (key_str Try.underlying9 o.key hob) (hM.ext H.ext (not_No _))) ?_
    clear hT; intro a hT
    rw [look_v hs (List.mem_of_getElem? ho)] at hT
    refine Sx.st_take hT rfl rfl rfl rfl (Sx.x_bld hT rfl Try.bld69 rfl rfl) ?_
    clear hT; intro a hT
    refine Sx.st_eff hT rfl rfl rfl rfl (Sx.y_slice1 hT rfl Try.underlying33 Try.ti69 rfl rfl rfl rfl rfl rfl _) ?_
    clear hT; rintro _ w4 ⟨b1, rfl, N⟩ a hT
    replace H := H.new N; clear N
    refine Sx.st_eff hT rfl rfl rfl rfl (Sx.x_append hT rfl rfl Try.underlying33 Try.ti69 rfl (by decide) rfl rfl (H.row 1 rfl) ((H.blk 0 rfl).sv1 rfl) (by simp [Value.oneCell']) (fun h => by cases h) (by unfold maxLen; omega) (by omega)) ?_
    rintro _ w5 ⟨ad5, c5, rfl, hr, E, hown, -⟩
    clear hT; intro a hT
    replace H := H.setR 1 rfl hr E hown rfl; clear hr E hown
    refine Sx.st_take hT rfl rfl rfl rfl (Sx.x_assign hT rfl rfl) ?_
    clear hT; intro a hT
    replace hT := hT.keep [3, 5, 14, 13, 12, 11, 2, 0] rfl
    refine Sx.ser_nil ?_
    refine Sx.block_normal ?_
    refine Sx.then_normal (hK8 _ _ ?_)
    clear hK8
    -- region 6 (view.go:64)
    refine Sx.wp_text [(0, .take), (1, .take)] rfl ?_
    refine Sx.st_take hT rfl rfl rfl rfl ((fun w => Sx.x_add w hT rfl rfl rfl (Sx.wrap64 (by omega)))) ?_
    clear hT; intro a hT
    refine Sx.st_take hT rfl rfl rfl rfl (Sx.x_move hT rfl rfl) ?_
    clear hT; intro a hT
    replace hT := hT.keep [13, 3, 5, 14, 12, 11, 2, 0] rfl
    refine Sx.ser_nil ?_
    refine Sx.then_normal ?_
    rw [tk_w2 ho] at H
    exact ⟨(k + 1, ad5, c5), (show k + 1 ≤ _ by omega), (hT.keep [13, 3, 12, 11, 2, 0] rfl), (H.keep [1, 2] rfl rfl), by show _ - (k + 1) < _ - k; omega⟩
  · try simp only [decide_eq_true_eq, decide_eq_false_iff_not, Bool.not_eq_true', Bool.not_eq_false', Bool.not_eq_true, Bool.not_eq_false, Bool.and_eq_true, Bool.or_eq_false_iff, beq_iff_eq, bne_iff_ne, Int.not_lt, Int.not_le, ne_eq] at hc7
    obtain rfl : k = L.length := by omega
    rw [List.take_length] at H
    refine wp_exit ?_
    refine Sx.then_exit ?_
    refine Sx.then_exit ?_
    refine Sx.block_exit ?_
    refine Sx.then_normal (hK3 _ _ ?_)
    clear hK3
    refine wp_seq_k fun K10 hK10 => ?_
    -- region 7 (view.go:67)
    refine Sx.wp_text [(0, .take), (1, .take), (2, .take), (3, .take), (4, .run), (5, .run), (6, .take)] rfl ?_
    refine Sx.st_take hT rfl rfl rfl rfl (Sx.x_move hT rfl rfl) ?_
    clear hT; intro a hT
    refine Sx.st_take hT rfl rfl rfl rfl (Sx.x_move hT rfl rfl) ?_
    clear hT; intro a hT
    refine Sx.st_take hT rfl rfl rfl rfl (Sx.x_nilCheck hT rfl rfl) ?_
    clear hT; intro a hT
    refine Sx.st_take hT rfl rfl rfl rfl (Sx.x_fieldAddr hT rfl Try.fa79_0 rfl) ?_
    clear hT; intro a hT
    refine Sx.st_run hT rfl rfl rfl rfl (Sx.x_load1 hT rfl Try.fl3 rfl (by first | exact ((RB.at H.ext).nth (j := 1) rfl) | exact ((RB.at H.ext).nth (j := 0) rfl) | exact (((H.row 1 rfl).ssn (by rw [List.length_map])).cell (j := 0) kc_len hok rfl))) ?_
    clear hT; intro a hT
    refine Sx.st_call hT rfl rfl rfl rfl rfl Try.can41 rfl (groups_calls L ((H.row 0 rfl).ssn rfl) cut hcut hL hb) ?_
    rintro _ w6 ⟨ad8, c8, rfl, K⟩
    refine ⟨_, rfl, ?_⟩
    clear hT; intro a hT
    replace H := H.more K rfl; clear K
    refine Sx.st_take hT rfl rfl rfl rfl (Sx.x_assign hT rfl rfl) ?_
    clear hT; intro a hT
    replace hT := hT.keep [2, 14, 13, 3, 12, 11, 0] rfl
    refine Sx.ser_nil ?_
    refine Sx.then_normal (hK10 _ _ ?_)
    clear hK10
    refine wp_ret ?_
    refine Sx.done1 (fn := Try.f15) hT rfl (.tmp (hT.get 2 _ rfl)) ?_
    exact ⟨_, _, rfl, H.keep [0] rfl rfl⟩

end Go.Proofs.Ytakjfnckbidbcaa
