/- Walks: the list. -/
import Derived.Test.YtakohabmcgponaaW2
import Derived.Test.YtakohabmcgponaaN1
import Derived.Test.YtakohabmcgponaaIter
set_option linter.unusedSimpArgs false
set_option linter.unusedVariables false
namespace Go.Proofs.Ytakohabmcgponaa
open Sx
theorem Try.can17 : Sx.Can Try.prog 17 := ⟨_, Try.func17, by kernel_rfl, rfl⟩
theorem Try.can36 : Sx.Can Try.prog 36 := ⟨_, Try.func36, by kernel_rfl, rfl⟩
theorem Try.can37 : Sx.Can Try.prog 37 := ⟨_, Try.func37, by kernel_rfl, rfl⟩
def idc (r : Rg) : List Value := [.int .i64 r.id]
theorem idc_len (r : Rg) : (idc r).length = 1 := rfl
theorem idc_flat (L : List Rg) : (L.map Rg.id).map (Value.int .i64) = L.flatMap idc := by
  rw [List.map_map, List.flatMap_def]
  induction L with
  | nil => rfl
  | cons x L ih => rw [List.map_cons, ih]; rfl
theorem sortsA (m : Nat) : AnyZI.SortsIn Try.prog Try.sortedA_ren Fence.wide m :=
  ⟨fun blk off cap ss W hH hblk hsz => callsIn_wide.2 (AnyM.slices_Sort_int Try.sortA blk off cap ss W hH hblk hsz),
   fun p cap W => callsIn_wide.2 (AnyM.slices_Sort_int_none Try.sortA p cap W)⟩
theorem KeysA_calls (b : Nat) (w : World) : Calls Try.prog 37 #[.map (some b)] w fun e w' => e = .returned (.func (.func 49) #[] #[.pointer (some ⟨w.heap.size, 0, none⟩)]) ∧ Ext No w w' ∧ w' = w.alloc (.cells #[.map (some b)] 70) := by
  have h : CallsIn Fence.wide 5 Try.prog 37 #[.map (some b)] w fun e w' => e = .returned (.func (.func 49) #[] #[.pointer (some ⟨w.heap.size, 0, none⟩)]) ∧ w' = w.alloc (.cells #[.map (some b)] 70) := AnyZI.keys_in Try.keysA Fence.wide 5 trivial rfl (some b) w
  exact (callsIn_wide.1 h).mono fun e w' h => ⟨h.1, by rw [h.2]; exact Ext.alloc w _, h.2⟩
theorem SortedA_calls {b : Nat} {L : List Rg} {w w1 : World} (hm : Mp Try.prog 3 w b (tb L)) (ew : w1 = w.alloc (.cells #[.map (some b)] 70)) (hs : Srt L) (hL : L.length ≤ 1000000) :
    Calls Try.prog 36 #[.func (.func 49) #[] #[.pointer (some ⟨w.heap.size, 0, none⟩)]] w1 fun e w' => ∃ ad c, e = .returned (.slice ad L.length c) ∧ Hp w1 No w' [cR 3 1 ad L.length c (L.flatMap idc)] := by
  subst ew
  have hbl := hm.lt
  have hz : Maps.size (tb L) = L.length := size_tab L
  have hseq : SeqGives Fence.wide 2 Try.prog 49 #[.pointer (some ⟨w.heap.size, 0, none⟩)] encZ (fun ss => ss.Perm (intKeys (tb L))) (Maps.size (tb L)) (w.alloc (.cells #[.map (some b)] 70)) :=
    AnyZI.keys_gives (ρ := Try.keysA_ren) { Try.keysA with } Fence.wide _ trivial rfl (by omega) w.heap.size b _ (tb L) _ (by simp) (by simp) (by
      obtain ⟨es, clock, hb, Ft, hs, hD⟩ := hm
      exact ⟨es, clock, (Go.RowKit.Below.heap_alloc _ _ b hbl).trans hb, Ft, hs, hD⟩)
  have cS := AnyZI.sorted_in Try.sortedA Fence.wide 5 trivial trivial trivial trivial rfl (by omega) (sortsA _) (enters_of Try.func48 (by kernel_rfl) rfl) 49 #[.pointer (some ⟨w.heap.size, 0, none⟩)] trivial (enters_of Try.func49 (by kernel_rfl) rfl) _ _ (by rw [hz]; unfold maxLen; omega) (by rw [hz]; omega) _ hseq
  change CallsIn _ _ Try.prog 36 _ _ _ at cS
  refine (callsIn_wide.1 cS).mono fun e w' h => ?_
  obtain ⟨v, ss, rfl, hp, hrow, -, hb⟩ := h
  rw [ints_tb] at hp
  rw [ids_srt hs hp, show ss.length = L.length from by rw [hp.length_eq, List.length_map]] at hrow
  rw [show (L.map Rg.id).map encZ = L.flatMap idc from idc_flat L] at hrow
  obtain ⟨ad, c, rfl, H⟩ := Hp.owned hb hrow
  exact ⟨ad, c, rfl, H⟩

theorem tk_cells {l : List Rg} {k : Nat} {o : Rg} (h : l[k]? = some o) : (l.take k).flatMap Rg.cells ++ [.int .i64 o.id, .int .i64 o.epoch, .float .f64 o.lo, .float .f64 o.hi] = (l.take (k + 1)).flatMap Rg.cells := by
  obtain ⟨hk, rfl⟩ := List.getElem?_eq_some_iff.1 h
  rw [List.take_succ_eq_append_getElem hk, List.flatMap_append]
  rfl

theorem List_calls {p b : Nat} {L : List Rg} {w : World} (hD : Blk w p [.map (some b)] 72) (hM : Mp Try.prog 3 w b (tb L)) (hs : Srt L) (hL : L.length ≤ 1000000) (hw : ∀ r ∈ L, r.wf) : Calls Try.prog 17 #[.pointer (some ⟨p, 0, none⟩)] w fun e w' => ∃ ad' c', e = .returned (.slice ad' L.length c') ∧ Hp w No w' [cR 37 4 ad' L.length c' (L.flatMap Rg.cells)] := by
  have R : Ro w No _ := Ro.of fun w' x => hD.ext_no x
  refine Sx.calls_into Try.func17 rfl Try.ntmps17 rfl fun a hT => ?_
  replace hT := hT.keep [0] rfl
  have H : Sx.Hp w (Sx.No) w [] := Sx.Hp.start _ _
  refine wp_seq_k fun K1 hK1 => ?_
  -- region 0 (dir.go:47)
  refine Sx.wp_text [(0, .take)] rfl ?_
  refine Sx.st_take hT rfl rfl rfl rfl (Sx.x_assign hT rfl rfl) ?_
  clear hT; intro a hT
  replace hT := hT.keep [2, 0] rfl
  refine Sx.ser_nil ?_
  refine Sx.then_normal (hK1 _ _ ?_)
  clear hK1
  refine wp_seq_k fun K2 hK2 => ?_
  -- region 1 (dir.go:48)
  refine Sx.wp_text [(0, .take)] rfl ?_
  refine Sx.st_take hT rfl rfl rfl rfl (Sx.x_assign hT rfl rfl) ?_
  clear hT; intro a hT
  replace hT := hT.keep [3, 2, 0] rfl
  refine Sx.ser_nil ?_
  refine Sx.then_normal (hK2 _ _ ?_)
  clear hK2
  refine wp_seq_k fun K3 hK3 => ?_
  refine wp_seq_k fun K4 hK4 => ?_
  -- region 2 (dir.go:49)
  refine Sx.wp_text [(0, .take), (1, .take), (2, .take), (3, .run), (4, .run), (5, .run), (6, .take), (7, .take)] rfl ?_
  refine Sx.st_take hT rfl rfl rfl rfl (Sx.x_move hT rfl rfl) ?_
  clear hT; intro a hT
  refine Sx.st_take hT rfl rfl rfl rfl (Sx.x_nilCheck hT rfl rfl) ?_
  clear hT; intro a hT
  refine Sx.st_take hT rfl rfl rfl rfl (Sx.x_fieldAddr hT rfl Try.fa72_0 rfl) ?_
  clear hT; intro a hT
  refine Sx.st_run hT rfl rfl rfl rfl (Sx.x_load1 hT rfl Try.fl70 rfl ((R.at H.ext).nth rfl)) ?_
  clear hT; intro a hT
  have hM1 := hM.ext H.ext (not_No _)
  refine Sx.st_call hT rfl rfl rfl rfl rfl Try.can37 rfl (KeysA_calls _ _) ?_
  rintro _ w1 ⟨rfl, E, ew⟩
  refine ⟨_, rfl, ?_⟩
  clear hT; intro a hT
  replace H := H.pure E; clear E
  refine Sx.st_call hT rfl rfl rfl rfl rfl Try.can36 rfl (SortedA_calls hM1 ew hs hL) ?_
  rintro _ w2 ⟨ad1, c1, rfl, K⟩
  refine ⟨_, rfl, ?_⟩
  clear hT; intro a hT
  replace H := H.more K rfl; clear K
  refine Sx.st_take hT rfl rfl rfl rfl (Sx.x_len_slice hT rfl rfl Try.underlying22 rfl) ?_
  clear hT; intro a hT
  refine Sx.st_take hT rfl rfl rfl rfl (Sx.x_move hT rfl rfl) ?_
  clear hT; intro a hT
  replace hT := hT.keep [13, 12, 11, 3, 2, 0] rfl
  refine Sx.ser_nil ?_
  refine Sx.then_normal (hK4 _ _ ?_)
  clear hK4
  refine wp_block ?_
  replace H := H.nilR 37 4
  -- loop 0
  refine Sx.wp_loopH (G := Nat × Option Addr × Nat) (fun ⟨k, ad2, c2⟩ => [(13, .int .i64 (k : Int)), (3, .slice ad2 k c2)]) (fun ⟨k, ad2, c2⟩ => [cR 37 4 ad2 k c2 ((L.take k).flatMap Rg.cells)]) (fun ⟨k, ad2, c2⟩ => k ≤ L.length) (fun ⟨k, ad2, c2⟩ => L.length - k) (0, none, 0) (hT.keep [13, 3, 12, 11, 2, 0] rfl) (H.keep [0, 1] rfl rfl) ((Nat.zero_le _)) ?_
  clear hT H
  rintro ⟨k, ad2, c2⟩ a w3 hJ hT H
  replace hT := hT.keep [13, 3, 12, 11, 2, 0] rfl
  replace H := H.keep [0, 1] rfl rfl
  have hk : k ≤ L.length := hJ
  refine wp_seq_k fun K5 hK5 => ?_
  -- region 3 (dir.go:49)
  refine Sx.wp_text [(0, .take)] rfl ?_
  refine Sx.st_take hT rfl rfl rfl rfl ((fun w => Sx.x_lt w hT rfl rfl rfl)) ?_
  clear hT; intro a hT
  replace hT := hT.keep [14, 13, 3, 12, 11, 2, 0] rfl
  refine Sx.ser_nil ?_
  refine Sx.then_normal (hK5 _ _ ?_)
  clear hK5
  refine wp_seq_k fun K6 hK6 => ?_
  -- cond 0
  refine Sx.wp_if hT rfl (fun hc7 => ?_) (fun hc7 => ?_)
  · try simp only [decide_eq_true_eq, decide_eq_false_iff_not, Bool.not_eq_true', Bool.not_eq_false', Bool.not_eq_true, Bool.not_eq_false, Bool.and_eq_true, Bool.or_eq_false_iff, beq_iff_eq, bne_iff_ne, Int.not_lt, Int.not_le, ne_eq] at hc7
    obtain ⟨o, ho⟩ : ∃ o, L[k]? = some o := ⟨_, List.getElem?_eq_getElem (by omega)⟩
    obtain ⟨hw1, hw2, -⟩ := hw o (List.mem_of_getElem? ho)
    refine wp_skip ?_
    refine Sx.then_normal (hK6 _ _ ?_)
    clear hK6
    refine wp_seq_k fun K8 hK8 => ?_
    refine wp_block ?_
    refine wp_seq_k fun K9 hK9 => ?_
    -- region 4 (dir.go:49)
    refine Sx.wp_text [(0, .take), (1, .run), (2, .take)] rfl ?_
    refine Sx.st_take hT rfl rfl rfl rfl (Sx.x_index (k := k) hT rfl Try.underlying22 Try.ti3 (H.row 1 rfl).sv rfl rfl (by first | rfl | omega) (by omega)) ?_
    clear hT; intro a hT
    refine Sx.st_run hT rfl rfl rfl rfl (Sx.x_load1 hT rfl Try.fl3 rfl (by first | exact ((R.at H.ext).nth rfl) | exact (((H.row 1 rfl).ssn rfl).cell (j := 0) idc_len ho rfl))) ?_
    clear hT; intro a hT
    refine Sx.st_take hT rfl rfl rfl rfl (Sx.x_assign hT rfl rfl) ?_
    clear hT; intro a hT
    replace hT := hT.keep [5, 14, 13, 3, 12, 11, 2, 0] rfl
    refine Sx.ser_nil ?_
    refine Sx.then_normal (hK9 _ _ ?_)
    clear hK9
    -- region 5 (dir.go:50)
    refine Sx.wp_text [(0, .take), (1, .take), (2, .take), (3, .take), (4, .run), (5, .take), (6, .run), (7, .run), (8, .run), (9, .take)] rfl ?_
    refine Sx.st_take hT rfl rfl rfl rfl (Sx.x_move hT rfl rfl) ?_
    clear hT; intro a hT
    refine Sx.st_take hT rfl rfl rfl rfl (Sx.x_move hT rfl rfl) ?_
    clear hT; intro a hT
    refine Sx.st_take hT rfl rfl rfl rfl (Sx.x_nilCheck hT rfl rfl) ?_
    clear hT; intro a hT
    refine Sx.st_take hT rfl rfl rfl rfl (Sx.x_fieldAddr hT rfl Try.fa72_0 rfl) ?_
    clear hT; intro a hT
    refine Sx.st_run hT rfl rfl rfl rfl (Sx.x_load1 hT rfl Try.fl70 rfl (by first | exact ((R.at H.ext).nth rfl) | exact (((H.row 1 rfl).ssn rfl).cell (j := 0) idc_len ho rfl))) ?_
    clear hT; intro a hT
    refine Sx.st_take hT rfl rfl rfl rfl (Sx.x_move hT rfl rfl) ?_
    clear hT; intro a hT
    refine Sx.st_run hT rfl rfl rfl rfl (Sx.x_lookup hT rfl Try.underlying70 (Go.Maps.int_keyed Try.underlying3) Try.ti37 rfl rfl (Go.Maps.keyOf_int_mk Try.underlying3 (Sx.wf64 (by omega) (by omega))) (hM.ext H.ext (not_No _))) ?_
    clear hT; intro a hT
    rw [(look_yes (gt_srt hs ho) _).1] at hT
    refine Sx.st_eff hT rfl rfl rfl rfl (Sx.y_slice1 hT rfl Try.underlying28 Try.ti37 rfl rfl rfl rfl rfl rfl _) ?_
    clear hT; rintro _ w4 ⟨b1, rfl, N⟩ a hT
    replace H := H.new N; clear N
    refine Sx.st_eff hT rfl rfl rfl rfl (Sx.x_append hT rfl rfl Try.underlying28 Try.ti37 rfl (by decide) rfl rfl (H.row 1 rfl) ((H.blk 0 rfl).sv1 rfl) (by simp [Value.oneCell']) (fun h => by cases h) (by unfold maxLen; omega) (by omega)) ?_
    rintro _ w5 ⟨ad5, c5, rfl, hr, E, hown, -⟩
    clear hT; intro a hT
    replace H := H.setR 1 rfl hr E hown rfl; clear hr E hown
    refine Sx.st_take hT rfl rfl rfl rfl (Sx.x_assign hT rfl rfl) ?_
    clear hT; intro a hT
    replace hT := hT.keep [3, 5, 14, 13, 12, 11, 2, 0] rfl
    refine Sx.ser_nil ?_
    refine Sx.block_normal ?_
    refine Sx.then_normal (hK8 _ _ ?_)
    clear hK8
    -- region 6 (dir.go:49)
    refine Sx.wp_text [(0, .take), (1, .take)] rfl ?_
    refine Sx.st_take hT rfl rfl rfl rfl ((fun w => Sx.x_add w hT rfl rfl rfl (Sx.wrap64 (by omega)))) ?_
    clear hT; intro a hT
    refine Sx.st_take hT rfl rfl rfl rfl (Sx.x_move hT rfl rfl) ?_
    clear hT; intro a hT
    replace hT := hT.keep [13, 3, 5, 14, 12, 11, 2, 0] rfl
    refine Sx.ser_nil ?_
    refine Sx.then_normal ?_
    rw [tk_cells ho] at H
    exact ⟨(k + 1, ad5, c5), (show k + 1 ≤ _ by omega), (hT.keep [13, 3, 12, 11, 2, 0] rfl), (H.keep [1, 2] rfl rfl), by show _ - (k + 1) < _ - k; omega⟩
  · try simp only [decide_eq_true_eq, decide_eq_false_iff_not, Bool.not_eq_true', Bool.not_eq_false', Bool.not_eq_true, Bool.not_eq_false, Bool.and_eq_true, Bool.or_eq_false_iff, beq_iff_eq, bne_iff_ne, Int.not_lt, Int.not_le, ne_eq] at hc7
    obtain rfl : k = L.length := by omega
    rw [List.take_length] at H
    refine wp_exit ?_
    refine Sx.then_exit ?_
    refine Sx.then_exit ?_
    refine Sx.block_exit ?_
    refine Sx.then_normal (hK3 _ _ ?_)
    clear hK3
    refine wp_seq_k fun K10 hK10 => ?_
    -- region 7 (dir.go:52)
    refine Sx.wp_text [(0, .take), (1, .take)] rfl ?_
    refine Sx.st_take hT rfl rfl rfl rfl (Sx.x_move hT rfl rfl) ?_
    clear hT; intro a hT
    refine Sx.st_take hT rfl rfl rfl rfl (Sx.x_assign hT rfl rfl) ?_
    clear hT; intro a hT
    replace hT := hT.keep [2, 14, 13, 3, 12, 11, 0] rfl
    refine Sx.ser_nil ?_
    refine Sx.then_normal (hK10 _ _ ?_)
    clear hK10
    refine wp_ret ?_
    refine Sx.done1 (fn := Try.f17) hT rfl (.tmp (hT.get 2 _ rfl)) ?_
    exact ⟨_, _, rfl, H.keep [0] rfl rfl⟩

end Go.Proofs.Ytakohabmcgponaa
