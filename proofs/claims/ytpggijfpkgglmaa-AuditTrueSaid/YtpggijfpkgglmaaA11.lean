/- Walks: what was seen, weighed and copied; entries held against others. -/
import Derived.Test.YtpggijfpkgglmaaA9
import Derived.Test.YtpggijfpkgglmaaA10
set_option linter.unusedSimpArgs false
set_option linter.unusedVariables false
namespace Go.Proofs.Ytpggijfpkgglmaa
open Sx
theorem Try.ti59 : Sx.TI Try.prog 59 (.agg #[.string .empty, .int .i64 0, .float .f64 0, .string .empty, .int .i64 0, .int .i64 0, .int .i64 0]) 7 72 := .mk' (by kernel_rfl)
theorem Try.fa59_0 : Sx.FA Try.prog 59 0 0 := ⟨_, _, _, _, _, Try.underlying59, rfl, rfl, Try.ti9, by decide⟩
theorem Try.fa59_1 : Sx.FA Try.prog 59 1 1 := ⟨_, _, _, _, _, Try.underlying59, rfl, rfl, Try.ti39, by decide⟩
theorem Try.bld39 : Sx.Bld Try.prog 39 #[.int .i64 0, .float .f64 0, .string .empty] #[(0, 1), (1, 1), (2, 1)] := ⟨_, _, _, _, Try.ti39, rfl, Try.underlying39, fun w => by simp [Sx.placesOf, Sx.run_sizeOf Try.ti3, Sx.run_sizeOf Try.ti37, Sx.run_sizeOf Try.ti9]⟩
theorem Try.can10 : Sx.Can Try.prog 10 := ⟨_, Try.func10, by kernel_rfl, rfl⟩
theorem Try.can13 : Sx.Can Try.prog 13 := ⟨_, Try.func13, by kernel_rfl, rfl⟩
theorem Try.can19 : Sx.Can Try.prog 19 := ⟨_, Try.func19, by kernel_rfl, rfl⟩
theorem Try.can22 : Sx.Can Try.prog 22 := ⟨_, Try.func22, by kernel_rfl, rfl⟩
theorem Try.can24 : Sx.Can Try.prog 24 := ⟨_, Try.func24, by kernel_rfl, rfl⟩
theorem WeighSeen_calls {ad : Option Addr} {c : Nat} (l : List Sn) {w : World} (hs : Ss w ad Sn.cells 7 l) (hl : l.length ≤ 9223372036854775806) (m9 : Nat) (hm : m9 ≤ 1125899906842624) (hb : ∀ x ∈ l, x.wf) : Calls Try.prog 19 #[.slice ad l.length c, .int .i64 (m9 : Int)] w fun e w' => ∃ z : Nat, e = .returned (.int .i64 (z : Int)) ∧ z ≤ m9 + 562949953421312 ∧ Ext No w w' := by
  have R : Ro w No _ := Ro.of fun w' x => hs.ext_no x
  refine Sx.calls_into Try.func19 rfl Try.ntmps19 rfl fun a hT => ?_
  replace hT := hT.keep [0, 1] rfl
  have H : Sx.Hp w (Sx.No) w [] := Sx.Hp.start _ _
  refine wp_seq_k fun K1 hK1 => ?_
  refine Sx.wp_text [(0, .take)] rfl ?_
  refine Sx.st_take hT rfl rfl rfl rfl (Sx.x_assign hT rfl rfl) ?_
  clear hT; intro a hT
  replace hT := hT.keep [4, 0, 1] rfl
  refine Sx.ser_nil ?_
  refine Sx.then_normal (hK1 _ _ ?_)
  clear hK1
  refine wp_seq_k fun K2 hK2 => ?_
  refine Sx.wp_text [(0, .take)] rfl ?_
  refine Sx.st_take hT rfl rfl rfl rfl (Sx.x_assign hT rfl rfl) ?_
  clear hT; intro a hT
  replace hT := hT.keep [5, 4, 0, 1] rfl
  refine Sx.ser_nil ?_
  refine Sx.then_normal (hK2 _ _ ?_)
  clear hK2
  refine wp_seq_k fun K3 hK3 => ?_
  refine wp_seq_k fun K4 hK4 => ?_
  refine Sx.wp_text [(0, .take)] rfl ?_
  refine Sx.st_take hT rfl rfl rfl rfl (Sx.x_assign hT rfl rfl) ?_
  clear hT; intro a hT
  replace hT := hT.keep [6, 5, 4, 0, 1] rfl
  refine Sx.ser_nil ?_
  refine Sx.then_normal (hK4 _ _ ?_)
  clear hK4
  refine wp_block ?_
  refine Sx.wp_loopH (G := Nat × Nat) (fun ⟨k, z9⟩ => [(6, .int .i64 (k : Int)), (5, .int .i64 (z9 : Int))]) (fun ⟨k, z9⟩ => []) (fun ⟨k, z9⟩ => k ≤ l.length ∧ z9 ≤ m9 + 562949953421312) (fun ⟨k, z9⟩ => l.length - k) (0, 0) (hT.keep [6, 5, 4, 0, 1] rfl) (H.keep [] rfl rfl) (⟨Nat.zero_le _, Nat.zero_le _⟩) ?_
  clear hT H
  rintro ⟨k, z9⟩ a w1 hJ hT H
  replace hT := hT.keep [6, 5, 4, 0, 1] rfl
  replace H := H.keep [] rfl rfl
  obtain ⟨hk, hz⟩ := hJ
  refine wp_seq_k fun K5 hK5 => ?_
  refine wp_seq_k fun K6 hK6 => ?_
  refine Sx.wp_text [(0, .take), (1, .take), (2, .take), (3, .take), (4, .take), (5, .take), (6, .take), (7, .take), (8, .take)] rfl ?_
  refine Sx.st_take hT rfl rfl rfl rfl (Sx.x_move hT rfl rfl) ?_
  clear hT; intro a hT
  refine Sx.st_take hT rfl rfl rfl rfl (Sx.x_move hT rfl rfl) ?_
  clear hT; intro a hT
  refine Sx.st_take hT rfl rfl rfl rfl (Sx.x_len_slice hT rfl rfl Try.underlying49 rfl) ?_
  clear hT; intro a hT
  refine Sx.st_take hT rfl rfl rfl rfl ((fun w => Sx.x_lt w hT rfl rfl rfl)) ?_
  clear hT; intro a hT
  refine Sx.st_take hT rfl rfl rfl rfl (Sx.x_move hT rfl rfl) ?_
  clear hT; intro a hT
  refine Sx.Sl.two hT 11 rfl (fun hc7 hT => ?_) (fun hc7 hT => ?_)
  · try simp only [Sx.bq] at hc7
    refine Sx.st_take hT rfl rfl rfl rfl (Sx.x_move hT rfl rfl) ?_
    clear hT; intro a hT
    refine Sx.st_take hT rfl rfl rfl rfl (Sx.x_move hT rfl rfl) ?_
    clear hT; intro a hT
    refine Sx.st_take hT rfl rfl rfl rfl ((fun w => Sx.x_le w hT rfl rfl rfl)) ?_
    clear hT; intro a hT
    refine Sx.st_take hT rfl rfl rfl rfl (Sx.x_pick_t hT rfl rfl rfl) ?_
    clear hT; intro a hT
    replace hT := hT.keep [15, 6, 5, 4, 0, 1] rfl
    refine Sx.ser_nil ?_
    refine Sx.then_normal (hK6 _ _ ?_)
    clear hK6
    refine Sx.wp_if hT rfl (fun hc8 => ?_) (fun hc8 => ?_)
    · try simp only [Sx.bq] at hc8
      obtain ⟨o, ho⟩ : ∃ q9, l[k]? = some q9 := ⟨_, List.getElem?_eq_getElem (by omega)⟩
      obtain ⟨hob1, -, -, -, hob2⟩ := hb o (List.mem_of_getElem? ho)
      have hf9 : few2F z9 (1 + o.key.length) m9 ≤ m9 + 281474976710656 := by unfold few2F; split <;> omega
      refine wp_skip ?_
      refine Sx.then_normal (hK5 _ _ ?_)
      clear hK5
      refine wp_seq_k fun K9 hK9 => ?_
      refine wp_block ?_
      refine Sx.wp_draws (fun u => Sx.Ext (Sx.No) u) [(0, .take), (1, .take), (2, .take), (3, .take), (4, .take), (5, .held), (6, .take), (7, .take), (8, .take), (10, .take), (11, .take), (12, .take), (13, .take), (14, .take), (15, .held), (16, .take), (17, .take), (9, .keep), (18, .run), (19, .take)] (by kernel_rfl) (by kernel_rfl) (fun u E _ => ?_)
      replace H := H.pure E; clear E
      have hH : Sx.Ext (Sx.No) u u := Sx.Ext.refl _ _
      have Hu := H
      refine Sx.st_take hT rfl rfl rfl rfl (Sx.x_move hT rfl rfl) ?_
      clear hT; intro a hT
      refine Sx.st_take hT rfl rfl rfl rfl (Sx.x_move hT rfl rfl) ?_
      clear hT; intro a hT
      refine Sx.st_take hT rfl rfl rfl rfl (Sx.x_move hT rfl rfl) ?_
      clear hT; intro a hT
      refine Sx.st_take hT rfl rfl rfl rfl (Sx.x_index (k := k) hT rfl Try.underlying49 Try.ti59 (R.at H.ext).sv rfl rfl (by first | rfl | omega) (by omega)) ?_
      clear hT; intro a hT
      refine Sx.st_take hT rfl rfl rfl rfl (Sx.x_fieldAddr hT rfl Try.fa59_0 rfl) ?_
      clear hT; intro a hT
      refine Sx.st_held hT rfl rfl rfl rfl hH (fun w' h' => Sx.x_load1 hT rfl Try.fl9 rfl (by first | exact ((R.at (Hu.ext.step h')).cell (j := 0) Sn.len ho rfl) | exact ((R.at (Hu.ext.step h')).cell (j := 3) Sn.len ho rfl))) ?_
      clear hT; intro a hT
      refine Sx.st_take hT rfl rfl rfl rfl (Sx.x_lenStr hT rfl rfl Try.underlying9 rfl) ?_
      clear hT; intro a hT
      refine Sx.st_take hT rfl rfl rfl rfl ((fun w => Sx.x_add w hT rfl rfl rfl (Sx.wrap64 (by omega)))) ?_
      clear hT; intro a hT
      refine Sx.st_take hT rfl rfl rfl rfl (Sx.x_move hT rfl rfl) ?_
      clear hT; intro a hT
      refine Sx.st_take hT rfl rfl rfl rfl (Sx.x_move hT rfl rfl) ?_
      clear hT; intro a hT
      refine Sx.st_take hT rfl rfl rfl rfl (Sx.x_move hT rfl rfl) ?_
      clear hT; intro a hT
      refine Sx.st_take hT rfl rfl rfl rfl (Sx.x_index (k := k) hT rfl Try.underlying49 Try.ti59 (R.at H.ext).sv rfl rfl (by first | rfl | omega) (by omega)) ?_
      clear hT; intro a hT
      refine Sx.st_take hT rfl rfl rfl rfl (Sx.x_fieldAddr hT rfl Try.fa59_1 rfl) ?_
      clear hT; intro a hT
      refine Sx.st_take hT rfl rfl rfl rfl (Sx.x_fieldAddr hT rfl Try.fa39_2 rfl) ?_
      clear hT; intro a hT
      refine Sx.st_held hT rfl rfl rfl rfl hH (fun w' h' => Sx.x_load1 hT rfl Try.fl9 rfl (by first | exact ((R.at (Hu.ext.step h')).cell (j := 0) Sn.len ho rfl) | exact ((R.at (Hu.ext.step h')).cell (j := 3) Sn.len ho rfl))) ?_
      clear hT; intro a hT
      refine Sx.st_take hT rfl rfl rfl rfl (Sx.x_lenStr hT rfl rfl Try.underlying9 rfl) ?_
      clear hT; intro a hT
      refine Sx.st_take hT rfl rfl rfl rfl (Sx.x_move hT rfl rfl) ?_
      clear hT; intro a hT
      refine Sx.st_callkeep hT rfl rfl rfl rfl rfl Try.can46 rfl (few2x_calls z9 (1 + o.key.length) m9 (by omega) (by omega) (by omega) _) ?_
      rintro _ w2 ⟨rfl, E⟩
      refine ⟨_, rfl, hH.step E, ?_⟩
      replace hH := hH.step E
      clear hT; intro a hT
      replace H := H.pure E; clear E
      refine Sx.st_call hT rfl rfl rfl rfl rfl Try.can46 rfl (few2x_calls (few2F z9 (1 + o.key.length) m9) o.v.tx.length m9 (by omega) (by omega) (by omega) _) ?_
      rintro _ w3 ⟨rfl, E⟩
      refine ⟨_, rfl, ?_⟩
      clear hT; intro a hT
      replace H := H.pure E; clear E
      refine Sx.st_take hT rfl rfl rfl rfl (Sx.x_assign hT rfl rfl) ?_
      clear hT; intro a hT
      replace hT := hT.keep [5, 15, 6, 4, 0, 1] rfl
      clear Hu hH
      refine Sx.ser_calm ?_
      refine Sx.block_normal ?_
      refine Sx.then_normal (hK9 _ _ ?_)
      clear hK9
      refine Sx.wp_text [(0, .take), (1, .take), (2, .take)] rfl ?_
      refine Sx.st_take hT rfl rfl rfl rfl (Sx.x_move hT rfl rfl) ?_
      clear hT; intro a hT
      refine Sx.st_take hT rfl rfl rfl rfl ((fun w => Sx.x_add w hT rfl rfl rfl (Sx.wrap64 (by omega)))) ?_
      clear hT; intro a hT
      refine Sx.st_take hT rfl rfl rfl rfl (Sx.x_assign hT rfl rfl) ?_
      clear hT; intro a hT
      replace hT := hT.keep [6, 5, 15, 4, 0, 1] rfl
      refine Sx.ser_nil ?_
      refine Sx.then_normal ?_
      exact ⟨(k + 1, few2F (few2F z9 (1 + o.key.length) m9) o.v.tx.length m9), ⟨show k + 1 ≤ _ by omega, by show few2F _ _ _ ≤ _; exact few2_ub (by omega) (by omega)⟩, (hT.keep [6, 5, 4, 0, 1] rfl), (H.keep [] rfl rfl), by show _ - (k + 1) < _ - k; omega⟩
    · try simp only [Sx.bq] at hc8
      refine wp_exit ?_
      refine Sx.then_exit ?_
      refine Sx.then_exit ?_
      refine Sx.block_exit ?_
      refine Sx.then_normal (hK3 _ _ ?_)
      clear hK3
      refine wp_seq_k fun K10 hK10 => ?_
      refine Sx.wp_text [(0, .take), (1, .take)] rfl ?_
      refine Sx.st_take hT rfl rfl rfl rfl (Sx.x_move hT rfl rfl) ?_
      clear hT; intro a hT
      refine Sx.st_take hT rfl rfl rfl rfl (Sx.x_assign hT rfl rfl) ?_
      clear hT; intro a hT
      replace hT := hT.keep [4, 15, 6, 5, 0, 1] rfl
      refine Sx.ser_nil ?_
      refine Sx.then_normal (hK10 _ _ ?_)
      clear hK10
      refine wp_ret ?_
      refine Sx.done1 (fn := Try.f19) hT rfl (.tmp (hT.get 4 _ rfl)) ?_
      exact ⟨z9, rfl, hz, H.ext⟩
  · try simp only [Sx.bq] at hc7
    refine Sx.st_skip hT rfl rfl rfl rfl ?_
    clear hT; intro a hT
    refine Sx.st_skip hT rfl rfl rfl rfl ?_
    clear hT; intro a hT
    refine Sx.st_skip hT rfl rfl rfl rfl ?_
    clear hT; intro a hT
    refine Sx.st_take hT rfl rfl rfl rfl (Sx.x_pick_f hT rfl rfl rfl) ?_
    clear hT; intro a hT
    replace hT := hT.keep [15, 6, 5, 4, 0, 1] rfl
    refine Sx.ser_nil ?_
    refine Sx.then_normal (hK6 _ _ ?_)
    clear hK6
    refine Sx.wp_if hT rfl (fun h => by cases h) (fun _ => ?_)
    refine wp_exit ?_
    refine Sx.then_exit ?_
    refine Sx.then_exit ?_
    refine Sx.block_exit ?_
    refine Sx.then_normal (hK3 _ _ ?_)
    clear hK3
    refine wp_seq_k fun K11 hK11 => ?_
    refine Sx.wp_text [(0, .take), (1, .take)] rfl ?_
    refine Sx.st_take hT rfl rfl rfl rfl (Sx.x_move hT rfl rfl) ?_
    clear hT; intro a hT
    refine Sx.st_take hT rfl rfl rfl rfl (Sx.x_assign hT rfl rfl) ?_
    clear hT; intro a hT
    replace hT := hT.keep [4, 15, 6, 5, 0, 1] rfl
    refine Sx.ser_nil ?_
    refine Sx.then_normal (hK11 _ _ ?_)
    clear hK11
    refine wp_ret ?_
    refine Sx.done1 (fn := Try.f19) hT rfl (.tmp (hT.get 4 _ rfl)) ?_
    exact ⟨z9, rfl, hz, H.ext⟩

theorem CopySeen_calls {ad : Option Addr} {c : Nat} (l : List Sn) {w : World} (hs : Ss w ad Sn.cells 7 l) (hl : l.length ≤ 1000000) : Calls Try.prog 24 #[.slice ad l.length c] w fun e w' => ∃ ad' c', e = .returned (.slice ad' l.length c') ∧ Hp w No w' [cR 59 7 ad' l.length c' (l.flatMap Sn.cells)] := by
  have R : Ro w No _ := Ro.of fun w' x => hs.ext_no x
  refine Sx.calls_into Try.func24 rfl Try.ntmps24 rfl fun a hT => ?_
  replace hT := hT.keep [0] rfl
  have H : Sx.Hp w (Sx.No) w [] := Sx.Hp.start _ _
  refine wp_seq_k fun K1 hK1 => ?_
  refine Sx.wp_text [(0, .take)] rfl ?_
  refine Sx.st_take hT rfl rfl rfl rfl (Sx.x_assign hT rfl rfl) ?_
  clear hT; intro a hT
  replace hT := hT.keep [2, 0] rfl
  refine Sx.ser_nil ?_
  refine Sx.then_normal (hK1 _ _ ?_)
  clear hK1
  refine wp_seq_k fun K2 hK2 => ?_
  refine Sx.wp_text [(0, .take)] rfl ?_
  refine Sx.st_take hT rfl rfl rfl rfl (Sx.x_assign hT rfl rfl) ?_
  clear hT; intro a hT
  replace hT := hT.keep [3, 2, 0] rfl
  refine Sx.ser_nil ?_
  refine Sx.then_normal (hK2 _ _ ?_)
  clear hK2
  refine wp_seq_k fun K3 hK3 => ?_
  refine wp_seq_k fun K4 hK4 => ?_
  refine Sx.wp_text [(0, .take)] rfl ?_
  refine Sx.st_take hT rfl rfl rfl rfl (Sx.x_assign hT rfl rfl) ?_
  clear hT; intro a hT
  replace hT := hT.keep [4, 3, 2, 0] rfl
  refine Sx.ser_nil ?_
  refine Sx.then_normal (hK4 _ _ ?_)
  clear hK4
  refine wp_block ?_
  replace H := H.nilR 59 7
  refine Sx.wp_loopH (G := Nat × Option Addr × Nat) (fun ⟨k, ad2, c2⟩ => [(4, .int .i64 (k : Int)), (3, .slice ad2 k c2)]) (fun ⟨k, ad2, c2⟩ => [cR 59 7 ad2 k c2 ((l.take k).flatMap Sn.cells)]) (fun ⟨k, ad2, c2⟩ => k ≤ l.length) (fun ⟨k, ad2, c2⟩ => l.length - k) (0, none, 0) (hT.keep [4, 3, 2, 0] rfl) (H.keep [0] rfl rfl) (Nat.zero_le _) ?_
  clear hT H
  rintro ⟨k, ad2, c2⟩ a w1 hJ hT H
  replace hT := hT.keep [4, 3, 2, 0] rfl
  replace H := H.keep [0] rfl rfl
  have hk : k ≤ l.length := hJ
  refine wp_seq_k fun K5 hK5 => ?_
  refine wp_seq_k fun K6 hK6 => ?_
  refine Sx.wp_text [(0, .take), (1, .take), (2, .take), (3, .take)] rfl ?_
  refine Sx.st_take hT rfl rfl rfl rfl (Sx.x_move hT rfl rfl) ?_
  clear hT; intro a hT
  refine Sx.st_take hT rfl rfl rfl rfl (Sx.x_move hT rfl rfl) ?_
  clear hT; intro a hT
  refine Sx.st_take hT rfl rfl rfl rfl (Sx.x_len_slice hT rfl rfl Try.underlying49 rfl) ?_
  clear hT; intro a hT
  refine Sx.st_take hT rfl rfl rfl rfl ((fun w => Sx.x_lt w hT rfl rfl rfl)) ?_
  clear hT; intro a hT
  replace hT := hT.keep [8, 4, 3, 2, 0] rfl
  refine Sx.ser_nil ?_
  refine Sx.then_normal (hK6 _ _ ?_)
  clear hK6
  refine Sx.wp_if hT rfl (fun hc7 => ?_) (fun hc7 => ?_)
  · try simp only [Sx.bq] at hc7
    obtain ⟨o, ho⟩ : ∃ q9, l[k]? = some q9 := ⟨_, List.getElem?_eq_getElem (by omega)⟩
    refine wp_skip ?_
    refine Sx.then_normal (hK5 _ _ ?_)
    clear hK5
    refine wp_seq_k fun K8 hK8 => ?_
    refine wp_block ?_
    refine Sx.wp_text [(0, .take), (1, .take), (2, .take), (3, .take), (4, .run), (5, .run), (6, .run), (7, .take)] rfl ?_
    refine Sx.st_take hT rfl rfl rfl rfl (Sx.x_move hT rfl rfl) ?_
    clear hT; intro a hT
    refine Sx.st_take hT rfl rfl rfl rfl (Sx.x_move hT rfl rfl) ?_
    clear hT; intro a hT
    refine Sx.st_take hT rfl rfl rfl rfl (Sx.x_move hT rfl rfl) ?_
    clear hT; intro a hT
    refine Sx.st_take hT rfl rfl rfl rfl (Sx.x_index (k := k) hT rfl Try.underlying49 Try.ti59 (R.at H.ext).sv rfl rfl (by first | rfl | omega) (by omega)) ?_
    clear hT; intro a hT
    refine Sx.st_run hT rfl rfl rfl rfl (Sx.y_loadS hT rfl Try.underlying59 Try.ti59 rfl ((R.at H.ext).cs Sn.len ho) (by rfl)) ?_
    clear hT; intro a hT
    refine Sx.st_eff hT rfl rfl rfl rfl (Sx.y_slice1 hT rfl Try.underlying49 Try.ti59 rfl rfl rfl rfl rfl rfl _) ?_
    clear hT; rintro _ w2 ⟨b1, rfl, N⟩ a hT
    replace H := H.new N; clear N
    refine Sx.st_eff hT rfl rfl rfl rfl (Sx.x_append hT rfl rfl Try.underlying49 Try.ti59 rfl (by decide) rfl rfl (H.row 1 rfl) ((H.blk 0 rfl).sv1 rfl) (Sn.one o) (fun h => by cases h) (by unfold maxLen; omega) (by omega)) ?_
    rintro _ w3 ⟨ad3, c3, rfl, hr, E, hown, -⟩
    clear hT; intro a hT
    replace H := H.setR 1 rfl hr E hown rfl; clear hr E hown
    refine Sx.st_take hT rfl rfl rfl rfl (Sx.x_assign hT rfl rfl) ?_
    clear hT; intro a hT
    replace hT := hT.keep [3, 8, 4, 2, 0] rfl
    refine Sx.ser_nil ?_
    refine Sx.block_normal ?_
    refine Sx.then_normal (hK8 _ _ ?_)
    clear hK8
    refine Sx.wp_text [(0, .take), (1, .take), (2, .take)] rfl ?_
    refine Sx.st_take hT rfl rfl rfl rfl (Sx.x_move hT rfl rfl) ?_
    clear hT; intro a hT
    refine Sx.st_take hT rfl rfl rfl rfl ((fun w => Sx.x_add w hT rfl rfl rfl (Sx.wrap64 (by omega)))) ?_
    clear hT; intro a hT
    refine Sx.st_take hT rfl rfl rfl rfl (Sx.x_assign hT rfl rfl) ?_
    clear hT; intro a hT
    replace hT := hT.keep [4, 3, 8, 2, 0] rfl
    refine Sx.ser_nil ?_
    refine Sx.then_normal ?_
    rw [tk_s7 ho] at H
    exact ⟨(k + 1, ad3, c3), (show k + 1 ≤ _ by omega), (hT.keep [4, 3, 2, 0] rfl), (H.keep [1] rfl rfl), by show _ - (k + 1) < _ - k; omega⟩
  · try simp only [Sx.bq] at hc7
    have hkl : k = l.length := by omega
    rw [hkl] at H hT
    rw [List.take_length] at H
    refine wp_exit ?_
    refine Sx.then_exit ?_
    refine Sx.then_exit ?_
    refine Sx.block_exit ?_
    refine Sx.then_normal (hK3 _ _ ?_)
    clear hK3
    refine wp_seq_k fun K9 hK9 => ?_
    refine Sx.wp_text [(0, .take), (1, .take)] rfl ?_
    refine Sx.st_take hT rfl rfl rfl rfl (Sx.x_move hT rfl rfl) ?_
    clear hT; intro a hT
    refine Sx.st_take hT rfl rfl rfl rfl (Sx.x_assign hT rfl rfl) ?_
    clear hT; intro a hT
    replace hT := hT.keep [2, 8, 4, 3, 0] rfl
    refine Sx.ser_nil ?_
    refine Sx.then_normal (hK9 _ _ ?_)
    clear hK9
    refine wp_ret ?_
    refine Sx.done1 (fn := Try.f24) hT rfl (.tmp (hT.get 2 _ rfl)) ?_
    exact ⟨_, _, rfl, H.keep [0] rfl rfl⟩

theorem Value25_calls {ad : Option Addr} {c : Nat} (l : List Wt) (k9 : Key) {w : World} (hs : Ss w ad Wt.cells 4 l) (hl : l.length ≤ 1000000) : Calls Try.prog 22 #[.slice ad l.length c, .string ⟨k9.toArray⟩] w fun e w' => e = .returned (.agg #[.int .i64 (gtv l k9).k, .float .f64 (gtv l k9).num, .string ⟨(gtv l k9).tx.toArray⟩]) ∧ Ext No w w' := by
  have R : Ro w No _ := Ro.of fun w' x => hs.ext_no x
  refine Sx.calls_into Try.func22 rfl Try.ntmps22 rfl fun a hT => ?_
  replace hT := hT.keep [0, 1] rfl
  have H : Sx.Hp w (Sx.No) w [] := Sx.Hp.start _ _
  refine wp_seq_k fun K1 hK1 => ?_
  refine Sx.wp_text [(0, .run)] rfl ?_
  refine Sx.st_eff hT rfl rfl rfl rfl (Sx.y_alloc hT rfl Try.ti39 rfl _) ?_
  clear hT; rintro _ w1 ⟨b1, rfl, N⟩ a hT
  replace H := H.new N; clear N
  replace hT := hT.keep [4, 0, 1] rfl
  refine Sx.ser_nil ?_
  refine Sx.then_normal (hK1 _ _ ?_)
  clear hK1
  refine wp_seq_k fun K2 hK2 => ?_
  refine wp_seq_k fun K3 hK3 => ?_
  refine Sx.wp_text [(0, .take)] rfl ?_
  refine Sx.st_take hT rfl rfl rfl rfl (Sx.x_assign hT rfl rfl) ?_
  clear hT; intro a hT
  replace hT := hT.keep [5, 4, 0, 1] rfl
  refine Sx.ser_nil ?_
  refine Sx.then_normal (hK3 _ _ ?_)
  clear hK3
  refine wp_block ?_
  refine Sx.wp_loopH (G := Nat) (fun k => [(5, .int .i64 (k : Int))]) (fun k => []) (fun k => k ≤ l.length ∧ ∀ (t : Nat) q, t < k → l[t]? = some q → q.key ≠ k9) (fun k => l.length - k) 0 (hT.keep [5, 4, 0, 1] rfl) (H.keep [0] rfl rfl) (⟨Nat.zero_le _, fun t q h => by omega⟩) ?_
  clear hT H
  rintro k a w2 hJ hT H
  replace hT := hT.keep [5, 4, 0, 1] rfl
  replace H := H.keep [0] rfl rfl
  obtain ⟨hk, hnq⟩ := hJ
  refine wp_seq_k fun K4 hK4 => ?_
  refine wp_seq_k fun K5 hK5 => ?_
  refine Sx.wp_text [(0, .take), (1, .take), (2, .take), (3, .take)] rfl ?_
  refine Sx.st_take hT rfl rfl rfl rfl (Sx.x_move hT rfl rfl) ?_
  clear hT; intro a hT
  refine Sx.st_take hT rfl rfl rfl rfl (Sx.x_move hT rfl rfl) ?_
  clear hT; intro a hT
  refine Sx.st_take hT rfl rfl rfl rfl (Sx.x_len_slice hT rfl rfl Try.underlying43 rfl) ?_
  clear hT; intro a hT
  refine Sx.st_take hT rfl rfl rfl rfl ((fun w => Sx.x_lt w hT rfl rfl rfl)) ?_
  clear hT; intro a hT
  replace hT := hT.keep [9, 5, 4, 0, 1] rfl
  refine Sx.ser_nil ?_
  refine Sx.then_normal (hK5 _ _ ?_)
  clear hK5
  refine Sx.wp_if hT rfl (fun hc6 => ?_) (fun hc6 => ?_)
  · try simp only [Sx.bq] at hc6
    obtain ⟨o, ho⟩ : ∃ q9, l[k]? = some q9 := ⟨_, List.getElem?_eq_getElem (by omega)⟩
    refine wp_skip ?_
    refine Sx.then_normal (hK4 _ _ ?_)
    clear hK4
    refine wp_seq_k fun K7 hK7 => ?_
    refine wp_block ?_
    refine wp_seq_k fun K8 hK8 => ?_
    refine Sx.wp_text [(0, .take), (1, .take), (2, .take), (3, .take), (4, .run), (5, .take), (6, .take)] rfl ?_
    refine Sx.st_take hT rfl rfl rfl rfl (Sx.x_move hT rfl rfl) ?_
    clear hT; intro a hT
    refine Sx.st_take hT rfl rfl rfl rfl (Sx.x_move hT rfl rfl) ?_
    clear hT; intro a hT
    refine Sx.st_take hT rfl rfl rfl rfl (Sx.x_index (k := k) hT rfl Try.underlying43 Try.ti73 (R.at H.ext).sv rfl rfl (by first | rfl | omega) (by omega)) ?_
    clear hT; intro a hT
    refine Sx.st_take hT rfl rfl rfl rfl (Sx.x_fieldAddr hT rfl Try.fa73_0 rfl) ?_
    clear hT; intro a hT
    refine Sx.st_run hT rfl rfl rfl rfl (Sx.x_load1 hT rfl Try.fl9 rfl (by first | exact ((H.blk 0 rfl).nth rfl) | exact ((R.at H.ext).cell (j := 0) Wt.len ho rfl))) ?_
    clear hT; intro a hT
    refine Sx.st_take hT rfl rfl rfl rfl (Sx.x_move hT rfl rfl) ?_
    clear hT; intro a hT
    refine Sx.st_take hT rfl rfl rfl rfl ((fun w => Sx.x_streq w hT rfl rfl rfl)) ?_
    clear hT; intro a hT
    replace hT := hT.keep [18, 9, 5, 4, 0, 1] rfl
    refine Sx.ser_nil ?_
    refine Sx.then_normal (hK8 _ _ ?_)
    clear hK8
    refine Sx.wp_if hT rfl (fun hc9 => ?_) (fun hc9 => ?_)
    · try simp only [Sx.bq] at hc9
      have heq : o.key = k9 := hc9
      refine wp_seq_k fun K10 hK10 => ?_
      refine Sx.wp_text [(0, .take), (1, .take), (2, .take), (3, .take), (4, .run), (5, .run)] rfl ?_
      refine Sx.st_take hT rfl rfl rfl rfl (Sx.x_move hT rfl rfl) ?_
      clear hT; intro a hT
      refine Sx.st_take hT rfl rfl rfl rfl (Sx.x_move hT rfl rfl) ?_
      clear hT; intro a hT
      refine Sx.st_take hT rfl rfl rfl rfl (Sx.x_index (k := k) hT rfl Try.underlying43 Try.ti73 (R.at H.ext).sv rfl rfl (by first | rfl | omega) (by omega)) ?_
      clear hT; intro a hT
      refine Sx.st_take hT rfl rfl rfl rfl (Sx.x_fieldAddr hT rfl Try.fa73_1 rfl) ?_
      clear hT; intro a hT
      refine Sx.st_run hT rfl rfl rfl rfl (Sx.y_loadS hT rfl Try.underlying39 Try.ti39 rfl (by first | exact ((H.blk 0 rfl).seg (k := 3) rfl) | exact (((R.at H.ext).cs Wt.len ho).drop 1)) (by rfl)) ?_
      clear hT; intro a hT
      refine Sx.st_act hT rfl rfl rfl (Sx.y_storeS hT rfl Try.ti39 rfl rfl rfl rfl rfl (H.blk 0 rfl) rfl) ?_
      rintro w3 ⟨hb, E, _⟩
      replace H := H.setB 0 rfl hb E rfl; clear hb E
      replace hT := hT.keep [18, 9, 5, 4, 0, 1] rfl
      refine Sx.ser_nil ?_
      refine Sx.then_normal (hK10 _ _ ?_)
      clear hK10
      refine wp_ret ?_
      refine Sx.block_ret ?_
      refine Sx.then_ret ?_
      refine Sx.then_ret ?_
      refine Sx.block_ret ?_
      refine Sx.then_ret ?_
      refine Sx.done1 (fn := Try.f22) hT rfl (.cell (hT.get 4 _ rfl) (Sx.run_resS Try.underlying39 Try.ti39 ((H.blk 0 rfl).seg (k := 3) rfl) (by rfl))) ?_
      rw [gtv_at hnq ho heq]
      exact ⟨rfl, H.ext⟩
    · try simp only [Sx.bq] at hc9
      have hne : o.key ≠ k9 := hc9
      refine wp_skip ?_
      refine Sx.block_normal ?_
      refine Sx.then_normal (hK7 _ _ ?_)
      clear hK7
      refine Sx.wp_text [(0, .take), (1, .take), (2, .take)] rfl ?_
      refine Sx.st_take hT rfl rfl rfl rfl (Sx.x_move hT rfl rfl) ?_
      clear hT; intro a hT
      refine Sx.st_take hT rfl rfl rfl rfl ((fun w => Sx.x_add w hT rfl rfl rfl (Sx.wrap64 (by omega)))) ?_
      clear hT; intro a hT
      refine Sx.st_take hT rfl rfl rfl rfl (Sx.x_assign hT rfl rfl) ?_
      clear hT; intro a hT
      replace hT := hT.keep [5, 18, 9, 4, 0, 1] rfl
      refine Sx.ser_nil ?_
      refine Sx.then_normal ?_
      exact ⟨k + 1, ⟨by omega, fun t q h3 h4 => by rcases Nat.lt_or_ge t k with h5 | h5; exact hnq t q h5 h4; obtain rfl : t = k := (by omega); rw [ho] at h4; cases h4; exact hne⟩, (hT.keep [5, 4, 0, 1] rfl), (H.keep [0] rfl rfl), by omega⟩
  · try simp only [Sx.bq] at hc6
    have hkl : k = l.length := by omega
    refine wp_exit ?_
    refine Sx.then_exit ?_
    refine Sx.then_exit ?_
    refine Sx.block_exit ?_
    refine Sx.then_normal (hK2 _ _ ?_)
    clear hK2
    refine wp_seq_k fun K11 hK11 => ?_
    refine Sx.wp_text [(0, .take), (1, .run)] rfl ?_
    refine Sx.st_take hT rfl rfl rfl rfl (Sx.x_bld hT rfl Try.bld39 rfl rfl) ?_
    clear hT; intro a hT
    refine Sx.st_act hT rfl rfl rfl (Sx.y_storeS hT rfl Try.ti39 rfl rfl rfl rfl rfl (H.blk 0 rfl) rfl) ?_
    rintro w4 ⟨hb, E, _⟩
    replace H := H.setB 0 rfl hb E rfl; clear hb E
    replace hT := hT.keep [9, 5, 4, 0, 1] rfl
    refine Sx.ser_nil ?_
    refine Sx.then_normal (hK11 _ _ ?_)
    clear hK11
    refine wp_ret ?_
    refine Sx.done1 (fn := Try.f22) hT rfl (.cell (hT.get 4 _ rfl) (Sx.run_resS Try.underlying39 Try.ti39 ((H.blk 0 rfl).seg (k := 3) rfl) (by rfl))) ?_
    rw [gtv_none fun t q hq => hnq t q (by have := (List.getElem?_eq_some_iff.1 hq).1; omega) hq]
    exact ⟨rfl, H.ext⟩

theorem Entries_calls {ad ad2 : Option Addr} {c c2 : Nat} (l m : List En) {w : World} (hs : Ss w ad En.cells 7 l) (hs2 : Ss w ad2 En.cells 7 m) (hf : (∀ x ∈ l, Ss w x.ad Wt.cells 4 x.ws ∧ x.ws.length ≤ 9223372036854775806)) (hf2 : (∀ x ∈ m, Ss w x.ad Wt.cells 4 x.ws ∧ x.ws.length ≤ 9223372036854775806)) (hl : l.length ≤ 9223372036854775806) : Calls Try.prog 13 #[.slice ad l.length c, .slice ad2 m.length c2] w fun e w' => e = .returned (.bool (decide (l.map En.p = m.map En.p))) ∧ Ext No w w' := by
  have R : Ro w No _ := Ro.of fun w' x => hs.ext_no x
  have R2 : Ro w No _ := Ro.of fun w' x => hs2.ext_no x
  have RF : Ro w No (fun u => ∀ x ∈ l, Ss u x.ad Wt.cells 4 x.ws) := Ro.of fun w' y x hx => ((hf x hx).1).ext_no y
  have RF2 : Ro w No (fun u => ∀ x ∈ m, Ss u x.ad Wt.cells 4 x.ws) := Ro.of fun w' y x hx => ((hf2 x hx).1).ext_no y
  refine Sx.calls_into Try.func13 rfl Try.ntmps13 rfl fun a hT => ?_
  replace hT := hT.keep [0, 1] rfl
  have H : Sx.Hp w (Sx.No) w [] := Sx.Hp.start _ _
  refine wp_seq_k fun K1 hK1 => ?_
  refine Sx.wp_text [(0, .take)] rfl ?_
  refine Sx.st_take hT rfl rfl rfl rfl (Sx.x_assign hT rfl rfl) ?_
  clear hT; intro a hT
  replace hT := hT.keep [4, 0, 1] rfl
  refine Sx.ser_nil ?_
  refine Sx.then_normal (hK1 _ _ ?_)
  clear hK1
  refine wp_seq_k fun K2 hK2 => ?_
  refine wp_seq_k fun K3 hK3 => ?_
  refine Sx.wp_text [(0, .take), (1, .take), (2, .take), (3, .take), (4, .take)] rfl ?_
  refine Sx.st_take hT rfl rfl rfl rfl (Sx.x_move hT rfl rfl) ?_
  clear hT; intro a hT
  refine Sx.st_take hT rfl rfl rfl rfl (Sx.x_len_slice hT rfl rfl Try.underlying22 rfl) ?_
  clear hT; intro a hT
  refine Sx.st_take hT rfl rfl rfl rfl (Sx.x_move hT rfl rfl) ?_
  clear hT; intro a hT
  refine Sx.st_take hT rfl rfl rfl rfl (Sx.x_len_slice hT rfl rfl Try.underlying22 rfl) ?_
  clear hT; intro a hT
  refine Sx.st_take hT rfl rfl rfl rfl ((fun w => Sx.x_ne w hT rfl rfl rfl)) ?_
  clear hT; intro a hT
  replace hT := hT.keep [10, 4, 0, 1] rfl
  refine Sx.ser_nil ?_
  refine Sx.then_normal (hK3 _ _ ?_)
  clear hK3
  refine Sx.wp_if hT rfl (fun hc4 => ?_) (fun hc4 => ?_)
  · try simp only [Sx.bq] at hc4
    refine wp_seq_k fun K5 hK5 => ?_
    refine Sx.wp_text [(0, .take)] rfl ?_
    refine Sx.st_take hT rfl rfl rfl rfl (Sx.x_assign hT rfl rfl) ?_
    clear hT; intro a hT
    replace hT := hT.keep [4, 10, 0, 1] rfl
    refine Sx.ser_nil ?_
    refine Sx.then_normal (hK5 _ _ ?_)
    clear hK5
    refine wp_ret ?_
    refine Sx.then_ret ?_
    refine Sx.done1 (fn := Try.f13) hT rfl (.tmp (hT.get 4 _ rfl)) ?_
    refine ⟨ret_b (decide_eq_false fun h9 => ?_).symm, H.ext⟩
    have := congrArg List.length h9
    simp only [List.length_map] at this
    omega
  · try simp only [Sx.bq] at hc4
    refine wp_skip ?_
    refine Sx.then_normal (hK2 _ _ ?_)
    clear hK2
    refine wp_seq_k fun K6 hK6 => ?_
    refine wp_seq_k fun K7 hK7 => ?_
    refine Sx.wp_text [(0, .take)] rfl ?_
    refine Sx.st_take hT rfl rfl rfl rfl (Sx.x_assign hT rfl rfl) ?_
    clear hT; intro a hT
    replace hT := hT.keep [5, 10, 4, 0, 1] rfl
    refine Sx.ser_nil ?_
    refine Sx.then_normal (hK7 _ _ ?_)
    clear hK7
    refine wp_block ?_
    refine Sx.wp_loopH (G := Nat) (fun k => [(5, .int .i64 (k : Int))]) (fun k => []) (fun k => k ≤ l.length ∧ ∀ t, t < k → (l[t]?).map En.p = (m[t]?).map En.p) (fun k => l.length - k) 0 (hT.keep [5, 10, 0, 1] rfl) (H.keep [] rfl rfl) (⟨Nat.zero_le _, fun t h => by omega⟩) ?_
    clear hT H
    rintro k a w1 hJ hT H
    replace hT := hT.keep [5, 10, 0, 1] rfl
    replace H := H.keep [] rfl rfl
    obtain ⟨hk, hsm⟩ := hJ
    refine wp_seq_k fun K8 hK8 => ?_
    refine wp_seq_k fun K9 hK9 => ?_
    refine Sx.wp_text [(0, .take), (1, .take), (2, .take), (3, .take)] rfl ?_
    refine Sx.st_take hT rfl rfl rfl rfl (Sx.x_move hT rfl rfl) ?_
    clear hT; intro a hT
    refine Sx.st_take hT rfl rfl rfl rfl (Sx.x_move hT rfl rfl) ?_
    clear hT; intro a hT
    refine Sx.st_take hT rfl rfl rfl rfl (Sx.x_len_slice hT rfl rfl Try.underlying22 rfl) ?_
    clear hT; intro a hT
    refine Sx.st_take hT rfl rfl rfl rfl ((fun w => Sx.x_lt w hT rfl rfl rfl)) ?_
    clear hT; intro a hT
    replace hT := hT.keep [14, 5, 10, 0, 1] rfl
    refine Sx.ser_nil ?_
    refine Sx.then_normal (hK9 _ _ ?_)
    clear hK9
    refine Sx.wp_if hT rfl (fun hc10 => ?_) (fun hc10 => ?_)
    · try simp only [Sx.bq] at hc10
      obtain ⟨o, ho⟩ : ∃ q9, l[k]? = some q9 := ⟨_, List.getElem?_eq_getElem (by omega)⟩
      obtain ⟨o2, ho2⟩ : ∃ q9, m[k]? = some q9 := ⟨_, List.getElem?_eq_getElem (by omega)⟩
      have hom := List.mem_of_getElem? ho
      have hom2 := List.mem_of_getElem? ho2
      refine wp_skip ?_
      refine Sx.then_normal (hK8 _ _ ?_)
      clear hK8
      refine wp_seq_k fun K11 hK11 => ?_
      refine wp_block ?_
      refine wp_seq_k fun K12 hK12 => ?_
      refine Sx.wp_draws (fun u => Sx.Ext (Sx.No) u) [(0, .take), (1, .take), (2, .take), (3, .take), (4, .held), (5, .take), (6, .take), (7, .take), (8, .take), (9, .held), (10, .take), (11, .take), (12, .take), (13, .take), (14, .take), (15, .take), (16, .held), (17, .take), (18, .take), (19, .take), (20, .take), (21, .held), (22, .take), (23, .take), (24, .take), (25, .take), (26, .take), (27, .take), (28, .take), (29, .held), (30, .take), (31, .take), (32, .take), (33, .take), (34, .held), (35, .run), (36, .take), (37, .take)] (by kernel_rfl) (by kernel_rfl) (fun u E _ => ?_)
      replace H := H.pure E; clear E
      have hH : Sx.Ext (Sx.No) u u := Sx.Ext.refl _ _
      have Hu := H
      refine Sx.st_take hT rfl rfl rfl rfl (Sx.x_move hT rfl rfl) ?_
      clear hT; intro a hT
      refine Sx.st_take hT rfl rfl rfl rfl (Sx.x_move hT rfl rfl) ?_
      clear hT; intro a hT
      refine Sx.st_take hT rfl rfl rfl rfl (Sx.x_index (k := k) hT rfl Try.underlying22 Try.ti36 (by first | exact (R.at H.ext).sv | exact (R2.at H.ext).sv) rfl rfl (by first | rfl | omega) (by omega)) ?_
      clear hT; intro a hT
      refine Sx.st_take hT rfl rfl rfl rfl (Sx.x_fieldAddr hT rfl Try.fa36_0 rfl) ?_
      clear hT; intro a hT
      refine Sx.st_held hT rfl rfl rfl rfl hH (fun w' h' => Sx.y_loadS hT rfl Try.underlying33 Try.ti33 rfl (((R.at (Hu.ext.step h')).cs En.len ho).seg (i := 0) (k := 3) rfl) (by rfl)) ?_
      clear hT; intro a hT
      refine Sx.st_take hT rfl rfl rfl rfl (Sx.x_move hT rfl rfl) ?_
      clear hT; intro a hT
      refine Sx.st_take hT rfl rfl rfl rfl (Sx.x_move hT rfl rfl) ?_
      clear hT; intro a hT
      refine Sx.st_take hT rfl rfl rfl rfl (Sx.x_index (k := k) hT rfl Try.underlying22 Try.ti36 (by first | exact (R.at H.ext).sv | exact (R2.at H.ext).sv) rfl rfl (by first | rfl | omega) (by omega)) ?_
      clear hT; intro a hT
      refine Sx.st_take hT rfl rfl rfl rfl (Sx.x_fieldAddr hT rfl Try.fa36_0 rfl) ?_
      clear hT; intro a hT
      refine Sx.st_held hT rfl rfl rfl rfl hH (fun w' h' => Sx.y_loadS hT rfl Try.underlying33 Try.ti33 rfl (((R2.at (Hu.ext.step h')).cs En.len ho2).seg (i := 0) (k := 3) rfl) (by rfl)) ?_
      clear hT; intro a hT
      refine Sx.st_take hT rfl rfl rfl rfl (Sx.x_neS hT rfl (by kernel_rfl) (Try.eq33 _ _ _ _ _ _) rfl rfl rfl) ?_
      clear hT; intro a hT
      refine Sx.st_take hT rfl rfl rfl rfl (Sx.x_move hT rfl rfl) ?_
      clear hT; intro a hT
      refine Sx.Sl.two hT 28 rfl (fun hc13 hT => ?_) (fun hc13 hT => ?_)
      · try simp only [Sx.bq] at hc13
        have hne : o.p ≠ o2.p := fun h9 => by have h8 := (tnI _ _).1 ((epI _ _).1 h9).1; simp [h8] at hc13
        refine Sx.st_skip hT rfl rfl rfl rfl ?_
        clear hT; intro a hT
        refine Sx.st_skip hT rfl rfl rfl rfl ?_
        clear hT; intro a hT
        refine Sx.st_skip hT rfl rfl rfl rfl ?_
        clear hT; intro a hT
        refine Sx.st_skip hT rfl rfl rfl rfl ?_
        clear hT; intro a hT
        refine Sx.st_heldskip hT rfl rfl rfl rfl hH ?_
        clear hT; intro a hT
        refine Sx.st_skip hT rfl rfl rfl rfl ?_
        clear hT; intro a hT
        refine Sx.st_skip hT rfl rfl rfl rfl ?_
        clear hT; intro a hT
        refine Sx.st_skip hT rfl rfl rfl rfl ?_
        clear hT; intro a hT
        refine Sx.st_skip hT rfl rfl rfl rfl ?_
        clear hT; intro a hT
        refine Sx.st_heldskip hT rfl rfl rfl rfl hH ?_
        clear hT; intro a hT
        refine Sx.st_skip hT rfl rfl rfl rfl ?_
        clear hT; intro a hT
        refine Sx.st_take hT rfl rfl rfl rfl (Sx.x_pick_t hT rfl rfl rfl) ?_
        clear hT; intro a hT
        refine Sx.st_take hT rfl rfl rfl rfl (Sx.x_move hT rfl rfl) ?_
        clear hT; intro a hT
        refine Sx.st_skip hT rfl rfl rfl rfl ?_
        clear hT; intro a hT
        refine Sx.st_skip hT rfl rfl rfl rfl ?_
        clear hT; intro a hT
        refine Sx.st_skip hT rfl rfl rfl rfl ?_
        clear hT; intro a hT
        refine Sx.st_skip hT rfl rfl rfl rfl ?_
        clear hT; intro a hT
        refine Sx.st_heldskip hT rfl rfl rfl rfl hH ?_
        clear hT; intro a hT
        refine Sx.st_skip hT rfl rfl rfl rfl ?_
        clear hT; intro a hT
        refine Sx.st_skip hT rfl rfl rfl rfl ?_
        clear hT; intro a hT
        refine Sx.st_skip hT rfl rfl rfl rfl ?_
        clear hT; intro a hT
        refine Sx.st_skip hT rfl rfl rfl rfl ?_
        clear hT; intro a hT
        refine Sx.st_heldskip hT rfl rfl rfl rfl hH ?_
        clear hT; intro a hT
        refine Sx.st_runskip hT rfl rfl rfl rfl ?_
        clear hT; intro a hT
        refine Sx.st_skip hT rfl rfl rfl rfl ?_
        clear hT; intro a hT
        refine Sx.st_take hT rfl rfl rfl rfl (Sx.x_pick_t hT rfl rfl rfl) ?_
        clear hT; intro a hT
        replace hT := hT.keep [54, 14, 5, 10, 0, 1] rfl
        clear Hu hH
        refine Sx.ser_calm ?_
        refine Sx.then_normal (hK12 _ _ ?_)
        clear hK12
        refine Sx.wp_if hT rfl (fun _ => ?_) (fun h => by cases h)
        skip
        refine wp_seq_k fun K14 hK14 => ?_
        refine Sx.wp_text [(0, .take)] rfl ?_
        refine Sx.st_take hT rfl rfl rfl rfl (Sx.x_assign hT rfl rfl) ?_
        clear hT; intro a hT
        replace hT := hT.keep [4, 54, 14, 5, 10, 0, 1] rfl
        refine Sx.ser_nil ?_
        refine Sx.then_normal (hK14 _ _ ?_)
        clear hK14
        refine wp_ret ?_
        refine Sx.block_ret ?_
        refine Sx.then_ret ?_
        refine Sx.then_ret ?_
        refine Sx.block_ret ?_
        refine Sx.then_ret ?_
        refine Sx.done1 (fn := Try.f13) hT rfl (.tmp (hT.get 4 _ rfl)) ?_
        refine ⟨ret_b (decide_eq_false fun h9 => ?_).symm, H.ext⟩
        have h8 := congrArg (fun q : List Ep => q[k]?) h9
        simp only [List.getElem?_map, ho, ho2, Option.map_some, Option.some.injEq] at h8
        exact hne h8
      · try simp only [Sx.bq] at hc13
        have hte : o.t = o2.t := (tnI _ _).2 (by simpa using hc13)
        refine Sx.st_take hT rfl rfl rfl rfl (Sx.x_move hT rfl rfl) ?_
        clear hT; intro a hT
        refine Sx.st_take hT rfl rfl rfl rfl (Sx.x_move hT rfl rfl) ?_
        clear hT; intro a hT
        refine Sx.st_take hT rfl rfl rfl rfl (Sx.x_index (k := k) hT rfl Try.underlying22 Try.ti36 (by first | exact (R.at H.ext).sv | exact (R2.at H.ext).sv) rfl rfl (by first | rfl | omega) (by omega)) ?_
        clear hT; intro a hT
        refine Sx.st_take hT rfl rfl rfl rfl (Sx.x_fieldAddr hT rfl Try.fa36_1 rfl) ?_
        clear hT; intro a hT
        refine Sx.st_held hT rfl rfl rfl rfl hH (fun w' h' => Sx.y_loadS hT rfl Try.underlying24 Try.ti24 rfl (((R.at (Hu.ext.step h')).cs En.len ho).seg (i := 3) (k := 3) rfl) (by rfl)) ?_
        clear hT; intro a hT
        refine Sx.st_take hT rfl rfl rfl rfl (Sx.x_move hT rfl rfl) ?_
        clear hT; intro a hT
        refine Sx.st_take hT rfl rfl rfl rfl (Sx.x_move hT rfl rfl) ?_
        clear hT; intro a hT
        refine Sx.st_take hT rfl rfl rfl rfl (Sx.x_index (k := k) hT rfl Try.underlying22 Try.ti36 (by first | exact (R.at H.ext).sv | exact (R2.at H.ext).sv) rfl rfl (by first | rfl | omega) (by omega)) ?_
        clear hT; intro a hT
        refine Sx.st_take hT rfl rfl rfl rfl (Sx.x_fieldAddr hT rfl Try.fa36_1 rfl) ?_
        clear hT; intro a hT
        refine Sx.st_held hT rfl rfl rfl rfl hH (fun w' h' => Sx.y_loadS hT rfl Try.underlying24 Try.ti24 rfl (((R2.at (Hu.ext.step h')).cs En.len ho2).seg (i := 3) (k := 3) rfl) (by rfl)) ?_
        clear hT; intro a hT
        refine Sx.st_take hT rfl rfl rfl rfl (Sx.x_neS hT rfl (by kernel_rfl) (Try.eq24 _ _ _ _ _ _) rfl rfl rfl) ?_
        clear hT; intro a hT
        refine Sx.st_take hT rfl rfl rfl rfl (Sx.x_pick_f hT rfl rfl rfl) ?_
        clear hT; intro a hT
        refine Sx.st_take hT rfl rfl rfl rfl (Sx.x_move hT rfl rfl) ?_
        clear hT; intro a hT
        refine Sx.Sl.two hT 41 rfl (fun hc15 hT => ?_) (fun hc15 hT => ?_)
        · try simp only [Sx.bq] at hc15
          have hne : o.p ≠ o2.p := fun h9 => by have h8 := (stI _ _).1 ((epI _ _).1 h9).2.1; simp [h8] at hc15
          refine Sx.st_skip hT rfl rfl rfl rfl ?_
          clear hT; intro a hT
          refine Sx.st_skip hT rfl rfl rfl rfl ?_
          clear hT; intro a hT
          refine Sx.st_skip hT rfl rfl rfl rfl ?_
          clear hT; intro a hT
          refine Sx.st_skip hT rfl rfl rfl rfl ?_
          clear hT; intro a hT
          refine Sx.st_heldskip hT rfl rfl rfl rfl hH ?_
          clear hT; intro a hT
          refine Sx.st_skip hT rfl rfl rfl rfl ?_
          clear hT; intro a hT
          refine Sx.st_skip hT rfl rfl rfl rfl ?_
          clear hT; intro a hT
          refine Sx.st_skip hT rfl rfl rfl rfl ?_
          clear hT; intro a hT
          refine Sx.st_skip hT rfl rfl rfl rfl ?_
          clear hT; intro a hT
          refine Sx.st_heldskip hT rfl rfl rfl rfl hH ?_
          clear hT; intro a hT
          refine Sx.st_runskip hT rfl rfl rfl rfl ?_
          clear hT; intro a hT
          refine Sx.st_skip hT rfl rfl rfl rfl ?_
          clear hT; intro a hT
          refine Sx.st_take hT rfl rfl rfl rfl (Sx.x_pick_t hT rfl rfl rfl) ?_
          clear hT; intro a hT
          replace hT := hT.keep [54, 14, 5, 10, 0, 1] rfl
          clear Hu hH
          refine Sx.ser_calm ?_
          refine Sx.then_normal (hK12 _ _ ?_)
          clear hK12
          refine Sx.wp_if hT rfl (fun _ => ?_) (fun h => by cases h)
          skip
          refine wp_seq_k fun K16 hK16 => ?_
          refine Sx.wp_text [(0, .take)] rfl ?_
          refine Sx.st_take hT rfl rfl rfl rfl (Sx.x_assign hT rfl rfl) ?_
          clear hT; intro a hT
          replace hT := hT.keep [4, 54, 14, 5, 10, 0, 1] rfl
          refine Sx.ser_nil ?_
          refine Sx.then_normal (hK16 _ _ ?_)
          clear hK16
          refine wp_ret ?_
          refine Sx.block_ret ?_
          refine Sx.then_ret ?_
          refine Sx.then_ret ?_
          refine Sx.block_ret ?_
          refine Sx.then_ret ?_
          refine Sx.done1 (fn := Try.f13) hT rfl (.tmp (hT.get 4 _ rfl)) ?_
          refine ⟨ret_b (decide_eq_false fun h9 => ?_).symm, H.ext⟩
          have h8 := congrArg (fun q : List Ep => q[k]?) h9
          simp only [List.getElem?_map, ho, ho2, Option.map_some, Option.some.injEq] at h8
          exact hne h8
        · try simp only [Sx.bq] at hc15
          have hse : o.s = o2.s := (stI _ _).2 (by simpa using hc15)
          refine Sx.st_take hT rfl rfl rfl rfl (Sx.x_move hT rfl rfl) ?_
          clear hT; intro a hT
          refine Sx.st_take hT rfl rfl rfl rfl (Sx.x_move hT rfl rfl) ?_
          clear hT; intro a hT
          refine Sx.st_take hT rfl rfl rfl rfl (Sx.x_index (k := k) hT rfl Try.underlying22 Try.ti36 (by first | exact (R.at H.ext).sv | exact (R2.at H.ext).sv) rfl rfl (by first | rfl | omega) (by omega)) ?_
          clear hT; intro a hT
          refine Sx.st_take hT rfl rfl rfl rfl (Sx.x_fieldAddr hT rfl Try.fa36_2 rfl) ?_
          clear hT; intro a hT
          refine Sx.st_held hT rfl rfl rfl rfl hH (fun w' h' => Sx.x_load1 hT rfl Try.fl34 rfl (by first | exact ((R.at (Hu.ext.step h')).cell (j := 6) En.len ho rfl) | exact ((R2.at (Hu.ext.step h')).cell (j := 6) En.len ho2 rfl))) ?_
          clear hT; intro a hT
          refine Sx.st_take hT rfl rfl rfl rfl (Sx.x_move hT rfl rfl) ?_
          clear hT; intro a hT
          refine Sx.st_take hT rfl rfl rfl rfl (Sx.x_move hT rfl rfl) ?_
          clear hT; intro a hT
          refine Sx.st_take hT rfl rfl rfl rfl (Sx.x_index (k := k) hT rfl Try.underlying22 Try.ti36 (by first | exact (R.at H.ext).sv | exact (R2.at H.ext).sv) rfl rfl (by first | rfl | omega) (by omega)) ?_
          clear hT; intro a hT
          refine Sx.st_take hT rfl rfl rfl rfl (Sx.x_fieldAddr hT rfl Try.fa36_2 rfl) ?_
          clear hT; intro a hT
          refine Sx.st_held hT rfl rfl rfl rfl hH (fun w' h' => Sx.x_load1 hT rfl Try.fl34 rfl (by first | exact ((R.at (Hu.ext.step h')).cell (j := 6) En.len ho rfl) | exact ((R2.at (Hu.ext.step h')).cell (j := 6) En.len ho2 rfl))) ?_
          clear hT; intro a hT
          refine Sx.st_call hT rfl rfl rfl rfl rfl Try.can38 rfl (Writes_calls o.ws o2.ws ((RF.at H.ext) o hom) ((RF2.at H.ext) o2 hom2) (hf o hom).2) ?_
          rintro _ w2 ⟨rfl, E⟩
          refine ⟨_, rfl, ?_⟩
          clear hT; intro a hT
          replace H := H.pure E; clear E
          refine Sx.st_take hT rfl rfl rfl rfl (Sx.x_not hT rfl rfl) ?_
          clear hT; intro a hT
          refine Sx.st_take hT rfl rfl rfl rfl (Sx.x_pick_f hT rfl rfl rfl) ?_
          clear hT; intro a hT
          replace hT := hT.keep [54, 14, 5, 10, 0, 1] rfl
          clear Hu hH
          refine Sx.ser_calm ?_
          refine Sx.then_normal (hK12 _ _ ?_)
          clear hK12
          refine Sx.wp_if hT rfl (fun hc17 => ?_) (fun hc17 => ?_)
          · try simp only [Sx.bq] at hc17
            have hne : o.p ≠ o2.p := fun h9 => by have h8 := ((epI _ _).1 h9).2.2; simp [h8] at hc17
            refine wp_seq_k fun K18 hK18 => ?_
            refine Sx.wp_text [(0, .take)] rfl ?_
            refine Sx.st_take hT rfl rfl rfl rfl (Sx.x_assign hT rfl rfl) ?_
            clear hT; intro a hT
            replace hT := hT.keep [4, 54, 14, 5, 10, 0, 1] rfl
            refine Sx.ser_nil ?_
            refine Sx.then_normal (hK18 _ _ ?_)
            clear hK18
            refine wp_ret ?_
            refine Sx.block_ret ?_
            refine Sx.then_ret ?_
            refine Sx.then_ret ?_
            refine Sx.block_ret ?_
            refine Sx.then_ret ?_
            refine Sx.done1 (fn := Try.f13) hT rfl (.tmp (hT.get 4 _ rfl)) ?_
            refine ⟨ret_b (decide_eq_false fun h9 => ?_).symm, H.ext⟩
            have h8 := congrArg (fun q : List Ep => q[k]?) h9
            simp only [List.getElem?_map, ho, ho2, Option.map_some, Option.some.injEq] at h8
            exact hne h8
          · try simp only [Sx.bq] at hc17
            have hwe : o.ws = o2.ws := by simpa using hc17
            refine wp_skip ?_
            refine Sx.block_normal ?_
            refine Sx.then_normal (hK11 _ _ ?_)
            clear hK11
            refine Sx.wp_text [(0, .take), (1, .take), (2, .take)] rfl ?_
            refine Sx.st_take hT rfl rfl rfl rfl (Sx.x_move hT rfl rfl) ?_
            clear hT; intro a hT
            refine Sx.st_take hT rfl rfl rfl rfl ((fun w => Sx.x_add w hT rfl rfl rfl (Sx.wrap64 (by omega)))) ?_
            clear hT; intro a hT
            refine Sx.st_take hT rfl rfl rfl rfl (Sx.x_assign hT rfl rfl) ?_
            clear hT; intro a hT
            replace hT := hT.keep [5, 54, 14, 10, 0, 1] rfl
            refine Sx.ser_nil ?_
            refine Sx.then_normal ?_
            exact ⟨k + 1, ⟨by omega, fun t h => by rcases Nat.lt_or_ge t k with h3 | h3; exact hsm t h3; rw [show t = k from by omega, ho, ho2]; exact congrArg some ((epI _ _).2 ⟨hte, hse, hwe⟩)⟩, (hT.keep [5, 10, 0, 1] rfl), (H.keep [] rfl rfl), by omega⟩
    · try simp only [Sx.bq] at hc10
      refine wp_exit ?_
      refine Sx.then_exit ?_
      refine Sx.then_exit ?_
      refine Sx.block_exit ?_
      refine Sx.then_normal (hK6 _ _ ?_)
      clear hK6
      refine wp_seq_k fun K19 hK19 => ?_
      refine Sx.wp_text [(0, .take)] rfl ?_
      refine Sx.st_take hT rfl rfl rfl rfl (Sx.x_assign hT rfl rfl) ?_
      clear hT; intro a hT
      replace hT := hT.keep [4, 14, 5, 10, 0, 1] rfl
      refine Sx.ser_nil ?_
      refine Sx.then_normal (hK19 _ _ ?_)
      clear hK19
      refine wp_ret ?_
      refine Sx.done1 (fn := Try.f13) hT rfl (.tmp (hT.get 4 _ rfl)) ?_
      refine ⟨ret_b (decide_eq_true (List.ext_getElem? fun t => ?_)).symm, H.ext⟩
      rw [List.getElem?_map, List.getElem?_map]
      rcases Nat.lt_or_ge t k with h3 | h3
      · exact hsm t h3
      · rw [List.getElem?_eq_none (by omega), List.getElem?_eq_none (by omega)]

theorem copied_calls {ad : Option Addr} {c : Nat} (l : List En) {w : World} (hs : Ss w ad En.cells 7 l) (hf : ∀ x ∈ l, Ss w x.ad Wt.cells 4 x.ws ∧ x.ws.length ≤ 1000000) (hl : l.length ≤ 1000000) : Calls Try.prog 10 #[.slice ad l.length c] w fun e w' => ∃ ad' c' M, e = .returned (.slice ad' (List.length M) c') ∧ Hp w No w' [cR 36 7 ad' (M).length c' ((M).flatMap En.cells), cF 41 4 En.rw (M)] ∧ M.map En.p = l.map En.p := by
  have R : Ro w No _ := Ro.of fun w' x => hs.ext_no x
  have RF : Ro w No (fun u => ∀ x ∈ l, Ss u x.ad Wt.cells 4 x.ws) := Ro.of fun w' y x hx => ((hf x hx).1).ext_no y
  refine Sx.calls_into Try.func10 rfl Try.ntmps10 rfl fun a hT => ?_
  replace hT := hT.keep [0] rfl
  have H : Sx.Hp w (Sx.No) w [] := Sx.Hp.start _ _
  refine wp_seq_k fun K1 hK1 => ?_
  refine Sx.wp_text [(0, .take)] rfl ?_
  refine Sx.st_take hT rfl rfl rfl rfl (Sx.x_assign hT rfl rfl) ?_
  clear hT; intro a hT
  replace hT := hT.keep [2, 0] rfl
  refine Sx.ser_nil ?_
  refine Sx.then_normal (hK1 _ _ ?_)
  clear hK1
  refine wp_seq_k fun K2 hK2 => ?_
  refine Sx.wp_text [(0, .take)] rfl ?_
  refine Sx.st_take hT rfl rfl rfl rfl (Sx.x_assign hT rfl rfl) ?_
  clear hT; intro a hT
  replace hT := hT.keep [3, 2, 0] rfl
  refine Sx.ser_nil ?_
  refine Sx.then_normal (hK2 _ _ ?_)
  clear hK2
  refine wp_seq_k fun K3 hK3 => ?_
  refine wp_seq_k fun K4 hK4 => ?_
  refine Sx.wp_text [(0, .take)] rfl ?_
  refine Sx.st_take hT rfl rfl rfl rfl (Sx.x_assign hT rfl rfl) ?_
  clear hT; intro a hT
  replace hT := hT.keep [4, 3, 2, 0] rfl
  refine Sx.ser_nil ?_
  refine Sx.then_normal (hK4 _ _ ?_)
  clear hK4
  refine wp_block ?_
  replace H := H.nilR 36 7
  replace H := H.famNil (α := En) 41 4 En.rw
  refine Sx.wp_loopH (G := Nat × List En × Option Addr × Nat) (fun ⟨k, M, ad2, c2⟩ => [(4, .int .i64 (k : Int)), (3, .slice ad2 M.length c2)]) (fun ⟨k, M, ad2, c2⟩ => [cF 41 4 En.rw (M), cR 36 7 ad2 (M).length c2 ((M).flatMap En.cells)]) (fun ⟨k, M, ad2, c2⟩ => k ≤ l.length ∧ M.map En.p = (l.take k).map En.p ∧ M.length = k) (fun ⟨k, M, ad2, c2⟩ => l.length - k) (0, [], none, 0) (hT.keep [4, 3, 2, 0] rfl) (H.keep [0, 1] rfl rfl) (⟨Nat.zero_le _, (by simp), rfl⟩) ?_
  clear hT H
  rintro ⟨k, M, ad2, c2⟩ a w1 hJ hT H
  replace hT := hT.keep [4, 3, 2, 0] rfl
  replace H := H.keep [0, 1] rfl rfl
  obtain ⟨hk, hM, hMl⟩ := hJ
  refine wp_seq_k fun K5 hK5 => ?_
  refine wp_seq_k fun K6 hK6 => ?_
  refine Sx.wp_text [(0, .take), (1, .take), (2, .take), (3, .take)] rfl ?_
  refine Sx.st_take hT rfl rfl rfl rfl (Sx.x_move hT rfl rfl) ?_
  clear hT; intro a hT
  refine Sx.st_take hT rfl rfl rfl rfl (Sx.x_move hT rfl rfl) ?_
  clear hT; intro a hT
  refine Sx.st_take hT rfl rfl rfl rfl (Sx.x_len_slice hT rfl rfl Try.underlying22 rfl) ?_
  clear hT; intro a hT
  refine Sx.st_take hT rfl rfl rfl rfl ((fun w => Sx.x_lt w hT rfl rfl rfl)) ?_
  clear hT; intro a hT
  replace hT := hT.keep [8, 4, 3, 2, 0] rfl
  refine Sx.ser_nil ?_
  refine Sx.then_normal (hK6 _ _ ?_)
  clear hK6
  refine Sx.wp_if hT rfl (fun hc7 => ?_) (fun hc7 => ?_)
  · try simp only [Sx.bq] at hc7
    obtain ⟨o, ho⟩ : ∃ q9, l[k]? = some q9 := ⟨_, List.getElem?_eq_getElem (by omega)⟩
    have hom := List.mem_of_getElem? ho
    refine wp_skip ?_
    refine Sx.then_normal (hK5 _ _ ?_)
    clear hK5
    refine wp_seq_k fun K8 hK8 => ?_
    refine wp_block ?_
    refine Sx.wp_draws (fun u => Sx.Ext (fun k => ¬ Sx.Rest w (Sx.No) k) u) [(0, .take), (1, .take), (2, .take), (3, .take), (4, .take), (5, .held), (6, .take), (7, .take), (8, .take), (9, .take), (10, .held), (11, .take), (12, .take), (13, .take), (14, .take), (15, .held), (16, .keep), (17, .take), (18, .run), (19, .run), (20, .take)] (by kernel_rfl) (by kernel_rfl) (fun u E _ => ?_)
    replace H := H.pure E; clear E
    have hH : Sx.Ext (fun k => ¬ Sx.Rest w (Sx.No) k) u u := Sx.Ext.refl _ _
    have Hu := H
    refine Sx.st_take hT rfl rfl rfl rfl (Sx.x_move hT rfl rfl) ?_
    clear hT; intro a hT
    refine Sx.st_take hT rfl rfl rfl rfl (Sx.x_move hT rfl rfl) ?_
    clear hT; intro a hT
    refine Sx.st_take hT rfl rfl rfl rfl (Sx.x_move hT rfl rfl) ?_
    clear hT; intro a hT
    refine Sx.st_take hT rfl rfl rfl rfl (Sx.x_index (k := k) hT rfl Try.underlying22 Try.ti36 (R.at H.ext).sv rfl rfl (by first | rfl | omega) (by omega)) ?_
    clear hT; intro a hT
    refine Sx.st_take hT rfl rfl rfl rfl (Sx.x_fieldAddr hT rfl Try.fa36_0 rfl) ?_
    clear hT; intro a hT
    refine Sx.st_held hT rfl rfl rfl rfl hH (fun w' h' => Sx.y_loadS hT rfl Try.underlying33 Try.ti33 rfl (((R.at (Hu.extR h')).cs En.len ho).seg (i := 0) (k := 3) rfl) (by rfl)) ?_
    clear hT; intro a hT
    refine Sx.st_take hT rfl rfl rfl rfl (Sx.x_move hT rfl rfl) ?_
    clear hT; intro a hT
    refine Sx.st_take hT rfl rfl rfl rfl (Sx.x_move hT rfl rfl) ?_
    clear hT; intro a hT
    refine Sx.st_take hT rfl rfl rfl rfl (Sx.x_index (k := k) hT rfl Try.underlying22 Try.ti36 (R.at H.ext).sv rfl rfl (by first | rfl | omega) (by omega)) ?_
    clear hT; intro a hT
    refine Sx.st_take hT rfl rfl rfl rfl (Sx.x_fieldAddr hT rfl Try.fa36_1 rfl) ?_
    clear hT; intro a hT
    refine Sx.st_held hT rfl rfl rfl rfl hH (fun w' h' => Sx.y_loadS hT rfl Try.underlying24 Try.ti24 rfl (((R.at (Hu.extR h')).cs En.len ho).seg (i := 3) (k := 3) rfl) (by rfl)) ?_
    clear hT; intro a hT
    refine Sx.st_take hT rfl rfl rfl rfl (Sx.x_move hT rfl rfl) ?_
    clear hT; intro a hT
    refine Sx.st_take hT rfl rfl rfl rfl (Sx.x_move hT rfl rfl) ?_
    clear hT; intro a hT
    refine Sx.st_take hT rfl rfl rfl rfl (Sx.x_index (k := k) hT rfl Try.underlying22 Try.ti36 (R.at H.ext).sv rfl rfl (by first | rfl | omega) (by omega)) ?_
    clear hT; intro a hT
    refine Sx.st_take hT rfl rfl rfl rfl (Sx.x_fieldAddr hT rfl Try.fa36_2 rfl) ?_
    clear hT; intro a hT
    refine Sx.st_held hT rfl rfl rfl rfl hH (fun w' h' => Sx.x_load1 hT rfl Try.fl34 rfl ((R.at (Hu.extR h')).cell (j := 6) En.len ho rfl)) ?_
    clear hT; intro a hT
    refine Sx.st_callkeep hT rfl rfl rfl rfl rfl Try.can34 rfl (CopyWrites_calls o.ws ((RF.at H.ext) o hom) (hf o hom).2) ?_
    rintro _ w2 ⟨ad7, c7, rfl, K⟩
    refine ⟨_, rfl, hH.step K.ext, ?_⟩
    replace hH := hH.step K.ext
    clear hT; intro a hT
    replace H := H.more K rfl; clear K
    refine Sx.st_take hT rfl rfl rfl rfl (Sx.x_bld hT rfl Try.bld36 rfl rfl) ?_
    clear hT; intro a hT
    refine Sx.st_eff hT rfl rfl rfl rfl (Sx.y_slice1 hT rfl Try.underlying22 Try.ti36 rfl rfl rfl rfl rfl rfl _) ?_
    clear hT; rintro _ w3 ⟨b1, rfl, N⟩ a hT
    replace H := H.new N; clear N
    refine Sx.st_eff hT rfl rfl rfl rfl (Sx.x_append hT rfl rfl Try.underlying22 Try.ti36 rfl (by decide) rfl rfl (H.row 3 rfl) ((H.blk 0 rfl).sv1 rfl) (by simp [Value.oneCell']) (fun h => by cases h) (by unfold maxLen; omega) (by omega)) ?_
    rintro _ w4 ⟨ad4, c4, rfl, hr, E, hown, -⟩
    clear hT; intro a hT
    replace H := H.setR 3 rfl hr E hown rfl; clear hr E hown
    refine Sx.st_take hT rfl rfl rfl rfl (Sx.x_assign hT rfl rfl) ?_
    clear hT; intro a hT
    rw [show (M.flatMap En.cells ++ [.int .i64 o.t.co, .int .i64 o.t.li, .int .i64 o.t.sq, .int .i64 o.s.w, .int .i64 o.s.l, .int .i64 o.s.n, .slice ad7 o.ws.length c7]) = (M ++ [(⟨o.t, o.s, ad7, c7, o.ws⟩ : En)]).flatMap En.cells from by rw [List.flatMap_append] <;> simp [En.cells], show M.length + 1 = (M ++ [(⟨o.t, o.s, ad7, c7, o.ws⟩ : En)]).length from by simp] at H
    rw [show M.length + 1 = (M ++ [(⟨o.t, o.s, ad7, c7, o.ws⟩ : En)]).length from by simp] at hT
    replace H := H.famPut (x := (⟨o.t, o.s, ad7, c7, o.ws⟩ : En)) 2 1 rfl rfl rfl rfl [0, 3] rfl rfl (show (M ++ [_]).Perm (_ :: M) from List.perm_append_comm)
    replace hT := hT.keep [3, 8, 4, 2, 0] rfl
    clear Hu hH
    refine Sx.ser_calm ?_
    refine Sx.block_normal ?_
    refine Sx.then_normal (hK8 _ _ ?_)
    clear hK8
    refine Sx.wp_text [(0, .take), (1, .take), (2, .take)] rfl ?_
    refine Sx.st_take hT rfl rfl rfl rfl (Sx.x_move hT rfl rfl) ?_
    clear hT; intro a hT
    refine Sx.st_take hT rfl rfl rfl rfl ((fun w => Sx.x_add w hT rfl rfl rfl (Sx.wrap64 (by omega)))) ?_
    clear hT; intro a hT
    refine Sx.st_take hT rfl rfl rfl rfl (Sx.x_assign hT rfl rfl) ?_
    clear hT; intro a hT
    replace hT := hT.keep [4, 3, 8, 2, 0] rfl
    refine Sx.ser_nil ?_
    refine Sx.then_normal ?_
    exact ⟨(k + 1, M ++ [(⟨o.t, o.s, ad7, c7, o.ws⟩ : En)], ad4, c4), ⟨by show k + 1 ≤ _; omega, by show (M ++ [_]).map En.p = _; rw [take_app ho, List.map_append, List.map_append, hM] <;> rfl, by show (M ++ [_]).length = k + 1; simp [hMl]⟩, (hT.keep [4, 3, 2, 0] rfl), (H.keep [0, 2] rfl rfl), by show _ - (k + 1) < _ - k; omega⟩
  · try simp only [Sx.bq] at hc7
    have hkl : k = l.length := by omega
    rw [hkl, List.take_length] at hM
    refine wp_exit ?_
    refine Sx.then_exit ?_
    refine Sx.then_exit ?_
    refine Sx.block_exit ?_
    refine Sx.then_normal (hK3 _ _ ?_)
    clear hK3
    refine wp_seq_k fun K9 hK9 => ?_
    refine Sx.wp_text [(0, .take), (1, .take)] rfl ?_
    refine Sx.st_take hT rfl rfl rfl rfl (Sx.x_move hT rfl rfl) ?_
    clear hT; intro a hT
    refine Sx.st_take hT rfl rfl rfl rfl (Sx.x_assign hT rfl rfl) ?_
    clear hT; intro a hT
    replace hT := hT.keep [2, 8, 4, 3, 0] rfl
    refine Sx.ser_nil ?_
    refine Sx.then_normal (hK9 _ _ ?_)
    clear hK9
    refine wp_ret ?_
    refine Sx.done1 (fn := Try.f10) hT rfl (.tmp (hT.get 2 _ rfl)) ?_
    exact ⟨_, _, M, rfl, H.keep [1, 0] rfl rfl, hM⟩

end Go.Proofs.Ytpggijfpkgglmaa
