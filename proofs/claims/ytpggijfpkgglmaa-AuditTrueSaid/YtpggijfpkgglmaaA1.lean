/- Walks: a stable sort: two stretches exchanged, rows turned about, the sort of a short stretch. -/
import Derived.Test.YtpggijfpkgglmaaC8
import Derived.Test.YtpggijfpkgglmaaA0
set_option linter.unusedSimpArgs false
set_option linter.unusedVariables false
namespace Go.Proofs.Ytpggijfpkgglmaa
open Sx
theorem Try.can61 : Sx.Can Try.prog 61 := ⟨_, Try.func61, by kernel_rfl, rfl⟩
theorem Try.can96 : Sx.Can Try.prog 96 := ⟨_, Try.func96, by kernel_rfl, rfl⟩
theorem Try.can103 : Sx.Can Try.prog 103 := ⟨_, Try.func103, by kernel_rfl, rfl⟩
theorem Try.can115 : Sx.Can Try.prog 115 := ⟨_, Try.func115, by kernel_rfl, rfl⟩
def ltE (x y : En) : Bool := decide (cmpS x.s y.s < 0)
theorem ltE_ord : Ord ltE where
  irr := fun x => decide_eq_false (by rw [cmp_lt]; exact ltS_irr _)
  tr := fun {x y z} h1 h2 => decide_eq_true (by have a := of_decide_eq_true h1; have b := of_decide_eq_true h2; rw [cmp_lt] at a b ⊢; exact ltS_tr a b)
  neg := fun {x y z} h1 h2 => decide_eq_false (by
    have a := of_decide_eq_false h1
    have b := of_decide_eq_false h2
    rw [cmp_lt] at a b ⊢
    intro h
    rcases ltS_tot y.s z.s with h3 | h3 | h3
    · exact b h3
    · rw [← h3] at h; exact a h
    · exact a (ltS_tr h h3))

theorem sorted1_calls (x y : En) (w : World) : Calls Try.prog 61 #[.agg #[.int .i64 x.t.co, .int .i64 x.t.li, .int .i64 x.t.sq, .int .i64 x.s.w, .int .i64 x.s.l, .int .i64 x.s.n, .slice x.ad x.ws.length x.c], .agg #[.int .i64 y.t.co, .int .i64 y.t.li, .int .i64 y.t.sq, .int .i64 y.s.w, .int .i64 y.s.l, .int .i64 y.s.n, .slice y.ad y.ws.length y.c]] w fun e w' => e = .returned (.int .i64 (cmpS x.s y.s)) ∧ Ext No w w' := by
  refine Sx.calls_into Try.func61 rfl Try.ntmps61 rfl fun a hT => ?_
  replace hT := hT.keep [0, 1] rfl
  have H : Sx.Hp w (Sx.No) w [] := Sx.Hp.start _ _
  refine wp_seq_k fun K1 hK1 => ?_
  refine Sx.wp_text [(0, .run), (1, .run), (2, .take)] rfl ?_
  refine Sx.st_eff hT rfl rfl rfl rfl (Sx.y_box hT rfl rfl rfl _) ?_
  clear hT; rintro _ w1 ⟨b1, rfl, N⟩ a hT
  replace H := H.new N; clear N
  refine Sx.st_eff hT rfl rfl rfl rfl (Sx.y_box hT rfl rfl rfl _) ?_
  clear hT; rintro _ w2 ⟨b2, rfl, N⟩ a hT
  replace H := H.new N; clear N
  refine Sx.st_take hT rfl rfl rfl rfl (Sx.x_assign hT rfl rfl) ?_
  clear hT; intro a hT
  replace hT := hT.keep [4, 3, 2, 0, 1] rfl
  refine Sx.ser_nil ?_
  refine Sx.then_normal (hK1 _ _ ?_)
  clear hK1
  refine wp_seq_k fun K2 hK2 => ?_
  refine Sx.wp_text [(0, .take), (1, .run), (2, .take), (3, .run), (4, .run), (5, .take)] rfl ?_
  refine Sx.st_take hT rfl rfl rfl rfl (Sx.x_fieldAddr hT rfl Try.fa36_1 rfl) ?_
  clear hT; intro a hT
  refine Sx.st_run hT rfl rfl rfl rfl (Sx.y_loadS hT rfl Try.underlying24 Try.ti24 rfl ((H.blk 1 rfl).seg (k := 3) rfl) (by rfl)) ?_
  clear hT; intro a hT
  refine Sx.st_take hT rfl rfl rfl rfl (Sx.x_fieldAddr hT rfl Try.fa36_1 rfl) ?_
  clear hT; intro a hT
  refine Sx.st_run hT rfl rfl rfl rfl (Sx.y_loadS hT rfl Try.underlying24 Try.ti24 rfl ((H.blk 0 rfl).seg (k := 3) rfl) (by rfl)) ?_
  clear hT; intro a hT
  refine Sx.st_call hT rfl rfl rfl rfl rfl Try.can43 rfl (Compare_calls x.s y.s _) ?_
  rintro _ w3 ⟨rfl, E⟩
  refine ⟨_, rfl, ?_⟩
  clear hT; intro a hT
  replace H := H.pure E; clear E
  refine Sx.st_take hT rfl rfl rfl rfl (Sx.x_assign hT rfl rfl) ?_
  clear hT; intro a hT
  replace hT := hT.keep [4, 3, 2, 0, 1] rfl
  refine Sx.ser_nil ?_
  refine Sx.then_normal (hK2 _ _ ?_)
  clear hK2
  refine wp_ret ?_
  refine Sx.done1 (fn := Try.f61) hT rfl (.tmp (hT.get 4 _ rfl)) ?_
  exact ⟨rfl, H.ext⟩

theorem swap_calls {S : Nat → Prop} {ad : Option Addr} {n c : Nat} {L : List En} (hn : n = L.length) (a9 b9 n9 : Nat) {w : World} (H : Hp w S w [cR 36 7 ad n c ((L).flatMap En.cells)]) (h1 : a9 + n9 ≤ b9) (h2 : b9 + n9 ≤ L.length) (hl : L.length ≤ 1000000) : Calls Try.prog 115 #[.slice ad n c, .int .i64 (a9 : Int), .int .i64 (b9 : Int), .int .i64 (n9 : Int), .func (.func 61) #[] #[]] w fun e w' => e = .returned (.tuple #[]) ∧ Hp w S w' [cR 36 7 ad n c ((swN L a9 b9 n9).flatMap En.cells)] := by
  refine Sx.calls_into Try.func115 rfl Try.ntmps115 rfl fun a hT => ?_
  replace hT := hT.keep [0, 1, 2, 3, 4] rfl
  refine wp_seq_k fun K1 hK1 => ?_
  refine Sx.wp_text [(0, .take)] rfl ?_
  refine Sx.st_take hT rfl rfl rfl rfl (Sx.x_assign hT rfl rfl) ?_
  clear hT; intro a hT
  replace hT := hT.keep [10, 0, 1, 2, 3, 4] rfl
  refine Sx.ser_nil ?_
  refine Sx.then_normal (hK1 _ _ ?_)
  clear hK1
  refine wp_block ?_
  refine Sx.wp_loopH (G := Nat) (fun i => [(10, .int .i64 (i : Int))]) (fun i => [cR 36 7 ad n c ((swN L a9 b9 i).flatMap En.cells)]) (fun i => i ≤ n9) (fun i => n9 - i) 0 (hT.keep [10, 0, 1, 2, 3, 4] rfl) (H.keep [0] rfl rfl) (Nat.zero_le _) ?_
  clear hT H
  rintro i a w1 hJ hT H
  replace hT := hT.keep [10, 0, 1, 2, 3, 4] rfl
  replace H := H.keep [0] rfl rfl
  have hi : i ≤ n9 := hJ
  refine wp_seq_k fun K2 hK2 => ?_
  refine wp_seq_k fun K3 hK3 => ?_
  refine Sx.wp_text [(0, .take), (1, .take), (2, .take)] rfl ?_
  refine Sx.st_take hT rfl rfl rfl rfl (Sx.x_move hT rfl rfl) ?_
  clear hT; intro a hT
  refine Sx.st_take hT rfl rfl rfl rfl (Sx.x_move hT rfl rfl) ?_
  clear hT; intro a hT
  refine Sx.st_take hT rfl rfl rfl rfl ((fun w => Sx.x_lt w hT rfl rfl rfl)) ?_
  clear hT; intro a hT
  replace hT := hT.keep [13, 10, 0, 1, 2, 3, 4] rfl
  refine Sx.ser_nil ?_
  refine Sx.then_normal (hK3 _ _ ?_)
  clear hK3
  refine Sx.wp_if hT rfl (fun hc4 => ?_) (fun hc4 => ?_)
  · try simp only [Sx.bq] at hc4
    obtain ⟨x, hx⟩ : ∃ x, (swN L a9 b9 i)[a9 + i]? = some x := ⟨_, List.getElem?_eq_getElem (by rw [swN_len]; omega)⟩
    obtain ⟨y, hy⟩ : ∃ x, (swN L a9 b9 i)[b9 + i]? = some x := ⟨_, List.getElem?_eq_getElem (by rw [swN_len]; omega)⟩
    refine wp_skip ?_
    refine Sx.then_normal (hK2 _ _ ?_)
    clear hK2
    refine wp_seq_k fun K5 hK5 => ?_
    refine wp_block ?_
    refine Sx.wp_drawsT (fun u => Sx.Ext (Sx.No) u) (.node [(0, .take), (1, .take), (2, .take), (3, .take), (4, .take), (5, .take), (6, .take), (7, .take), (8, .take), (9, .take), (10, .take), (11, .take), (12, .take), (14, .take), (15, .take), (16, .take), (17, .take), (18, .take)] (.leaf [(13, .run), (19, .run), (20, .take), (21, .run), (22, .take), (23, .run)]) (.leaf [(19, .run), (13, .run), (20, .take), (21, .run), (22, .take), (23, .run)])) (by kernel_rfl) (by kernel_rfl) (fun u E _ => ?_)
    refine Sx.tser_node ?_
    replace H := H.pure E; clear E
    refine Sx.st_take hT rfl rfl rfl rfl (Sx.x_move hT rfl rfl) ?_
    clear hT; intro a hT
    refine Sx.st_take hT rfl rfl rfl rfl (Sx.x_move hT rfl rfl) ?_
    clear hT; intro a hT
    refine Sx.st_take hT rfl rfl rfl rfl (Sx.x_move hT rfl rfl) ?_
    clear hT; intro a hT
    refine Sx.st_take hT rfl rfl rfl rfl ((fun w => Sx.x_add w hT rfl rfl rfl (Sx.wrap64 (by omega)))) ?_
    clear hT; intro a hT
    refine Sx.st_take hT rfl rfl rfl rfl (Sx.x_move hT rfl rfl) ?_
    clear hT; intro a hT
    refine Sx.st_take hT rfl rfl rfl rfl (Sx.x_move hT rfl rfl) ?_
    clear hT; intro a hT
    refine Sx.st_take hT rfl rfl rfl rfl (Sx.x_move hT rfl rfl) ?_
    clear hT; intro a hT
    refine Sx.st_take hT rfl rfl rfl rfl ((fun w => Sx.x_add w hT rfl rfl rfl (Sx.wrap64 (by omega)))) ?_
    clear hT; intro a hT
    refine Sx.st_take hT rfl rfl rfl rfl (Sx.x_move hT rfl rfl) ?_
    clear hT; intro a hT
    refine Sx.st_take hT rfl rfl rfl rfl (Sx.x_move hT rfl rfl) ?_
    clear hT; intro a hT
    refine Sx.st_take hT rfl rfl rfl rfl (Sx.x_move hT rfl rfl) ?_
    clear hT; intro a hT
    refine Sx.st_take hT rfl rfl rfl rfl ((fun w => Sx.x_add w hT rfl rfl rfl (Sx.wrap64 (by omega)))) ?_
    clear hT; intro a hT
    refine Sx.st_take hT rfl rfl rfl rfl (Sx.x_index (k := b9 + i) hT rfl Try.underlying22 Try.ti36 (H.row 0 rfl).sv rfl rfl (by first | rfl | omega) (by omega)) ?_
    clear hT; intro a hT
    refine Sx.st_take hT rfl rfl rfl rfl (Sx.x_move hT rfl rfl) ?_
    clear hT; intro a hT
    refine Sx.st_take hT rfl rfl rfl rfl (Sx.x_move hT rfl rfl) ?_
    clear hT; intro a hT
    refine Sx.st_take hT rfl rfl rfl rfl (Sx.x_move hT rfl rfl) ?_
    clear hT; intro a hT
    refine Sx.st_take hT rfl rfl rfl rfl ((fun w => Sx.x_add w hT rfl rfl rfl (Sx.wrap64 (by omega)))) ?_
    clear hT; intro a hT
    refine Sx.st_take hT rfl rfl rfl rfl (Sx.x_index (k := a9 + i) hT rfl Try.underlying22 Try.ti36 (H.row 0 rfl).sv rfl rfl (by first | rfl | omega) (by omega)) ?_
    clear hT; intro a hT
    refine Sx.ser_forkT ?_ ?_
    · skip
      refine Sx.tser_leaf ?_
      refine Sx.st_run hT rfl rfl rfl rfl (Sx.y_loadS hT rfl Try.underlying36 Try.ti36 rfl (((((H.row 0 rfl).ssn (xs := swN L a9 b9 i) (enc := En.cells) (by rw [swN_len]; exact hn)).cs En.len hy).seg (i := 0) (k := 7) rfl)) (by rfl)) ?_
      clear hT; intro a hT
      refine Sx.st_run hT rfl rfl rfl rfl (Sx.y_loadS hT rfl Try.underlying36 Try.ti36 rfl (((((H.row 0 rfl).ssn (xs := swN L a9 b9 i) (enc := En.cells) (by rw [swN_len]; exact hn)).cs En.len hx).seg (i := 0) (k := 7) rfl)) (by rfl)) ?_
      clear hT; intro a hT
      refine Sx.st_take hT rfl rfl rfl rfl (Sx.x_index (k := a9 + i) hT rfl Try.underlying22 Try.ti36 (H.row 0 rfl).sv rfl rfl (by first | rfl | omega) (by omega)) ?_
      clear hT; intro a hT
      refine Sx.st_act hT rfl rfl rfl (Sx.x_storeRowS (k := a9 + i) (r := y) hT rfl Try.ti36 rfl rfl En.len En.one rfl (H.row 0 rfl) (by rw [swN_len]; exact hn) (by omega)) ?_
      rintro w2 ⟨hr, E, _⟩
      replace H := H.setR 0 rfl hr E (fun _ hk => .inl hk) rfl; clear hr E
      refine Sx.st_take hT rfl rfl rfl rfl (Sx.x_index (k := b9 + i) hT rfl Try.underlying22 Try.ti36 (H.row 0 rfl).sv rfl rfl (by first | rfl | omega) (by omega)) ?_
      clear hT; intro a hT
      refine Sx.st_act hT rfl rfl rfl (Sx.x_storeRowS (k := b9 + i) (r := x) hT rfl Try.ti36 rfl rfl En.len En.one rfl (H.row 0 rfl) (by rw [List.length_set, swN_len]; exact hn) (by omega)) ?_
      rintro w3 ⟨hr, E, _⟩
      replace H := H.setR 0 rfl hr E (fun _ hk => .inl hk) rfl; clear hr E
      replace hT := hT.keep [13, 10, 0, 1, 2, 3, 4] rfl
      refine Sx.ser_calm ?_
      refine Sx.block_normal ?_
      refine Sx.then_normal (hK5 _ _ ?_)
      clear hK5
      refine Sx.wp_text [(0, .take), (1, .take), (2, .take)] rfl ?_
      refine Sx.st_take hT rfl rfl rfl rfl (Sx.x_move hT rfl rfl) ?_
      clear hT; intro a hT
      refine Sx.st_take hT rfl rfl rfl rfl ((fun w => Sx.x_add w hT rfl rfl rfl (Sx.wrap64 (by omega)))) ?_
      clear hT; intro a hT
      refine Sx.st_take hT rfl rfl rfl rfl (Sx.x_assign hT rfl rfl) ?_
      clear hT; intro a hT
      replace hT := hT.keep [10, 13, 0, 1, 2, 3, 4] rfl
      refine Sx.ser_nil ?_
      refine Sx.then_normal ?_
      rw [← swN_step hx hy] at H
      exact ⟨i + 1, (by omega), (hT.keep [10, 0, 1, 2, 3, 4] rfl), (H.keep [0] rfl rfl), by omega⟩
    · skip
      refine Sx.tser_leaf ?_
      refine Sx.st_run hT rfl rfl rfl rfl (Sx.y_loadS hT rfl Try.underlying36 Try.ti36 rfl (((((H.row 0 rfl).ssn (xs := swN L a9 b9 i) (enc := En.cells) (by rw [swN_len]; exact hn)).cs En.len hx).seg (i := 0) (k := 7) rfl)) (by rfl)) ?_
      clear hT; intro a hT
      refine Sx.st_run hT rfl rfl rfl rfl (Sx.y_loadS hT rfl Try.underlying36 Try.ti36 rfl (((((H.row 0 rfl).ssn (xs := swN L a9 b9 i) (enc := En.cells) (by rw [swN_len]; exact hn)).cs En.len hy).seg (i := 0) (k := 7) rfl)) (by rfl)) ?_
      clear hT; intro a hT
      refine Sx.st_take hT rfl rfl rfl rfl (Sx.x_index (k := a9 + i) hT rfl Try.underlying22 Try.ti36 (H.row 0 rfl).sv rfl rfl (by first | rfl | omega) (by omega)) ?_
      clear hT; intro a hT
      refine Sx.st_act hT rfl rfl rfl (Sx.x_storeRowS (k := a9 + i) (r := y) hT rfl Try.ti36 rfl rfl En.len En.one rfl (H.row 0 rfl) (by rw [swN_len]; exact hn) (by omega)) ?_
      rintro w4 ⟨hr, E, _⟩
      replace H := H.setR 0 rfl hr E (fun _ hk => .inl hk) rfl; clear hr E
      refine Sx.st_take hT rfl rfl rfl rfl (Sx.x_index (k := b9 + i) hT rfl Try.underlying22 Try.ti36 (H.row 0 rfl).sv rfl rfl (by first | rfl | omega) (by omega)) ?_
      clear hT; intro a hT
      refine Sx.st_act hT rfl rfl rfl (Sx.x_storeRowS (k := b9 + i) (r := x) hT rfl Try.ti36 rfl rfl En.len En.one rfl (H.row 0 rfl) (by rw [List.length_set, swN_len]; exact hn) (by omega)) ?_
      rintro w5 ⟨hr, E, _⟩
      replace H := H.setR 0 rfl hr E (fun _ hk => .inl hk) rfl; clear hr E
      replace hT := hT.keep [13, 10, 0, 1, 2, 3, 4] rfl
      refine Sx.ser_calm ?_
      refine Sx.block_normal ?_
      refine Sx.then_normal (hK5 _ _ ?_)
      clear hK5
      refine Sx.wp_text [(0, .take), (1, .take), (2, .take)] rfl ?_
      refine Sx.st_take hT rfl rfl rfl rfl (Sx.x_move hT rfl rfl) ?_
      clear hT; intro a hT
      refine Sx.st_take hT rfl rfl rfl rfl ((fun w => Sx.x_add w hT rfl rfl rfl (Sx.wrap64 (by omega)))) ?_
      clear hT; intro a hT
      refine Sx.st_take hT rfl rfl rfl rfl (Sx.x_assign hT rfl rfl) ?_
      clear hT; intro a hT
      replace hT := hT.keep [10, 13, 0, 1, 2, 3, 4] rfl
      refine Sx.ser_nil ?_
      refine Sx.then_normal ?_
      rw [← swN_step hx hy] at H
      exact ⟨i + 1, (by omega), (hT.keep [10, 0, 1, 2, 3, 4] rfl), (H.keep [0] rfl rfl), by omega⟩
  · try simp only [Sx.bq] at hc4
    obtain rfl : i = n9 := by omega
    refine wp_exit ?_
    refine Sx.then_exit ?_
    refine Sx.then_exit ?_
    refine Sx.block_exit ?_
    refine Sx.done_end ?_
    refine Sx.done0 (fn := Try.f115) hT rfl  ?_
    exact ⟨rfl, H.keep [0] rfl rfl⟩

theorem rotate_calls {S : Nat → Prop} {ad : Option Addr} {n c : Nat} (P X Y Q : List En) {a9 m9 b9 : Nat} {w : World} (H : Hp w S w [cR 36 7 ad n c ((P ++ X ++ Y ++ Q).flatMap En.cells)]) (hn : n = (P ++ X ++ Y ++ Q).length) (ha : a9 = P.length) (hm : m9 = a9 + X.length) (hb : b9 = m9 + Y.length) (hx1 : 1 ≤ X.length) (hy1 : 1 ≤ Y.length) (hl : n ≤ 1000000) : Calls Try.prog 103 #[.slice ad n c, .int .i64 (a9 : Int), .int .i64 (m9 : Int), .int .i64 (b9 : Int), .func (.func 61) #[] #[]] w fun e w' => e = .returned (.tuple #[]) ∧ Hp w S w' [cR 36 7 ad n c ((P ++ Y ++ X ++ Q).flatMap En.cells)] := by
  have hnl : n = P.length + X.length + Y.length + Q.length := by rw [hn]; simp only [List.length_append]
  refine Sx.calls_into Try.func103 rfl Try.ntmps103 rfl fun a hT => ?_
  replace hT := hT.keep [0, 1, 2, 3, 4] rfl
  refine wp_seq_k fun K1 hK1 => ?_
  refine Sx.wp_text [(0, .take), (1, .take), (2, .take), (3, .take)] rfl ?_
  refine Sx.st_take hT rfl rfl rfl rfl (Sx.x_move hT rfl rfl) ?_
  clear hT; intro a hT
  refine Sx.st_take hT rfl rfl rfl rfl (Sx.x_move hT rfl rfl) ?_
  clear hT; intro a hT
  refine Sx.st_take hT rfl rfl rfl rfl ((fun w => Sx.x_sub w hT rfl rfl rfl (Sx.wrap64 (by omega)))) ?_
  clear hT; intro a hT
  rw [show ((m9 : Int) - (a9 : Int)) = ((m9 - a9 : Nat) : Int) from by omega] at hT
  refine Sx.st_take hT rfl rfl rfl rfl (Sx.x_assign hT rfl rfl) ?_
  clear hT; intro a hT
  replace hT := hT.keep [10, 0, 1, 2, 3, 4] rfl
  refine Sx.ser_nil ?_
  refine Sx.then_normal (hK1 _ _ ?_)
  clear hK1
  refine wp_seq_k fun K2 hK2 => ?_
  refine Sx.wp_text [(0, .take), (1, .take), (2, .take), (3, .take)] rfl ?_
  refine Sx.st_take hT rfl rfl rfl rfl (Sx.x_move hT rfl rfl) ?_
  clear hT; intro a hT
  refine Sx.st_take hT rfl rfl rfl rfl (Sx.x_move hT rfl rfl) ?_
  clear hT; intro a hT
  refine Sx.st_take hT rfl rfl rfl rfl ((fun w => Sx.x_sub w hT rfl rfl rfl (Sx.wrap64 (by omega)))) ?_
  clear hT; intro a hT
  rw [show ((b9 : Int) - (m9 : Int)) = ((b9 - m9 : Nat) : Int) from by omega] at hT
  refine Sx.st_take hT rfl rfl rfl rfl (Sx.x_assign hT rfl rfl) ?_
  clear hT; intro a hT
  replace hT := hT.keep [11, 10, 0, 1, 2, 3, 4] rfl
  refine Sx.ser_nil ?_
  refine Sx.then_normal (hK2 _ _ ?_)
  clear hK2
  refine wp_seq_k fun K3 hK3 => ?_
  refine wp_block ?_
  refine Sx.wp_loopH (G := Nat × Nat × List En × List En × List En × List En) (fun ⟨i, j, P1, A1, B1, Q1⟩ => [(10, .int .i64 (i : Int)), (11, .int .i64 (j : Int))]) (fun ⟨i, j, P1, A1, B1, Q1⟩ => [cR 36 7 ad n c ((P1 ++ A1 ++ B1 ++ Q1).flatMap En.cells)]) (fun ⟨i, j, P1, A1, B1, Q1⟩ => A1.length = i ∧ B1.length = j ∧ P1.length + i = m9 ∧ 1 ≤ i ∧ 1 ≤ j ∧ n = (P1 ++ A1 ++ B1 ++ Q1).length ∧ P1 ++ B1 ++ A1 ++ Q1 = P ++ Y ++ X ++ Q) (fun ⟨i, j, P1, A1, B1, Q1⟩ => i + j) (m9 - a9, b9 - m9, P, X, Y, Q) (hT.keep [10, 11, 0, 1, 2, 3, 4] rfl) (H.keep [0] rfl rfl) (⟨by omega, by omega, by omega, by omega, by omega, hn, rfl⟩) ?_
  clear hT H
  rintro ⟨i, j, P1, A1, B1, Q1⟩ a w1 hJ hT H
  replace hT := hT.keep [10, 11, 0, 1, 2, 3, 4] rfl
  replace H := H.keep [0] rfl rfl
  obtain ⟨hA, hB, hmi, hi1, hj1, hnJ, hF⟩ := hJ
  have hnL : n = P1.length + A1.length + B1.length + Q1.length := by rw [hnJ]; simp only [List.length_append]
  refine wp_seq_k fun K4 hK4 => ?_
  refine wp_seq_k fun K5 hK5 => ?_
  refine Sx.wp_text [(0, .take), (1, .take), (2, .take)] rfl ?_
  refine Sx.st_take hT rfl rfl rfl rfl (Sx.x_move hT rfl rfl) ?_
  clear hT; intro a hT
  refine Sx.st_take hT rfl rfl rfl rfl (Sx.x_move hT rfl rfl) ?_
  clear hT; intro a hT
  refine Sx.st_take hT rfl rfl rfl rfl ((fun w => Sx.x_ne w hT rfl rfl rfl)) ?_
  clear hT; intro a hT
  replace hT := hT.keep [20, 10, 11, 0, 1, 2, 3, 4] rfl
  refine Sx.ser_nil ?_
  refine Sx.then_normal (hK5 _ _ ?_)
  clear hK5
  refine Sx.wp_if hT rfl (fun hc6 => ?_) (fun hc6 => ?_)
  · try simp only [Sx.bq] at hc6
    have hne : i ≠ j := by omega
    refine wp_skip ?_
    refine Sx.then_normal (hK4 _ _ ?_)
    clear hK4
    refine wp_block ?_
    refine wp_seq_k fun K7 hK7 => ?_
    refine Sx.wp_text [(0, .take), (1, .take), (2, .take)] rfl ?_
    refine Sx.st_take hT rfl rfl rfl rfl (Sx.x_move hT rfl rfl) ?_
    clear hT; intro a hT
    refine Sx.st_take hT rfl rfl rfl rfl (Sx.x_move hT rfl rfl) ?_
    clear hT; intro a hT
    refine Sx.st_take hT rfl rfl rfl rfl ((fun w => Sx.x_gt w hT rfl rfl rfl)) ?_
    clear hT; intro a hT
    replace hT := hT.keep [23, 20, 10, 11, 0, 1, 2, 3, 4] rfl
    refine Sx.ser_nil ?_
    refine Sx.then_normal (hK7 _ _ ?_)
    clear hK7
    refine Sx.wp_if hT rfl (fun hc8 => ?_) (fun hc8 => ?_)
    · try simp only [Sx.bq] at hc8
      have hij : j < i := by omega
      refine wp_seq_k fun K9 hK9 => ?_
      refine Sx.wp_text [(0, .take), (1, .take), (2, .take), (3, .take), (4, .take), (5, .take), (6, .take), (7, .run)] rfl ?_
      refine Sx.st_take hT rfl rfl rfl rfl (Sx.x_move hT rfl rfl) ?_
      clear hT; intro a hT
      refine Sx.st_take hT rfl rfl rfl rfl (Sx.x_move hT rfl rfl) ?_
      clear hT; intro a hT
      refine Sx.st_take hT rfl rfl rfl rfl (Sx.x_move hT rfl rfl) ?_
      clear hT; intro a hT
      refine Sx.st_take hT rfl rfl rfl rfl ((fun w => Sx.x_sub w hT rfl rfl rfl (Sx.wrap64 (by omega)))) ?_
      clear hT; intro a hT
      rw [show ((m9 : Int) - (i : Int)) = ((m9 - i : Nat) : Int) from by omega] at hT
      refine Sx.st_take hT rfl rfl rfl rfl (Sx.x_move hT rfl rfl) ?_
      clear hT; intro a hT
      refine Sx.st_take hT rfl rfl rfl rfl (Sx.x_move hT rfl rfl) ?_
      clear hT; intro a hT
      refine Sx.st_take hT rfl rfl rfl rfl (Sx.x_move hT rfl rfl) ?_
      clear hT; intro a hT
      refine Sx.st_call hT rfl rfl rfl rfl rfl Try.can115 rfl (swap_calls hnJ (m9 - i) m9 j (H.pre [0] rfl rfl) (by omega) (by rw [← hnJ]; omega) (by rw [← hnJ]; exact hl)) ?_
      rintro _ w2 ⟨rfl, K⟩
      refine ⟨_, rfl, ?_⟩
      clear hT; intro a hT
      replace H := H.back [0] [] rfl rfl rfl K rfl; clear K
      rw [swN_rot1 hA hB hmi hij] at H
      replace hT := hT.keep [23, 20, 10, 11, 0, 1, 2, 3, 4] rfl
      refine Sx.ser_nil ?_
      refine Sx.then_normal (hK9 _ _ ?_)
      clear hK9
      refine Sx.wp_text [(0, .take), (1, .take), (2, .take), (3, .take)] rfl ?_
      refine Sx.st_take hT rfl rfl rfl rfl (Sx.x_move hT rfl rfl) ?_
      clear hT; intro a hT
      refine Sx.st_take hT rfl rfl rfl rfl (Sx.x_move hT rfl rfl) ?_
      clear hT; intro a hT
      refine Sx.st_take hT rfl rfl rfl rfl ((fun w => Sx.x_sub w hT rfl rfl rfl (Sx.wrap64 (by omega)))) ?_
      clear hT; intro a hT
      rw [show ((i : Int) - (j : Int)) = ((i - j : Nat) : Int) from by omega] at hT
      refine Sx.st_take hT rfl rfl rfl rfl (Sx.x_assign hT rfl rfl) ?_
      clear hT; intro a hT
      replace hT := hT.keep [10, 23, 20, 11, 0, 1, 2, 3, 4] rfl
      refine Sx.ser_nil ?_
      refine Sx.block_normal ?_
      refine Sx.then_normal ?_
      exact ⟨(i - j, j, P1 ++ B1, A1.drop j, A1.take j, Q1), ⟨by show (A1.drop j).length = _; rw [List.length_drop]; omega, by show (A1.take j).length = _; rw [List.length_take]; omega, by show (P1 ++ B1).length + (i - j) = _; rw [List.length_append]; omega, by show 1 ≤ i - j; omega, hj1, by show n = (P1 ++ B1 ++ A1.drop j ++ A1.take j ++ Q1).length; simp only [List.length_append, List.length_drop, List.length_take]; omega, by show P1 ++ B1 ++ A1.take j ++ A1.drop j ++ Q1 = _; rw [List.append_assoc (P1 ++ B1), List.take_append_drop, hF]⟩, (hT.keep [10, 11, 0, 1, 2, 3, 4] rfl), (H.keep [0] rfl rfl), by show i - j + j < i + j; omega⟩
    · try simp only [Sx.bq] at hc8
      have hij : i < j := by omega
      refine wp_seq_k fun K10 hK10 => ?_
      refine Sx.wp_text [(0, .take), (1, .take), (2, .take), (3, .take), (4, .take), (5, .take), (6, .take), (7, .take), (8, .take), (9, .take), (10, .take), (11, .run)] rfl ?_
      refine Sx.st_take hT rfl rfl rfl rfl (Sx.x_move hT rfl rfl) ?_
      clear hT; intro a hT
      refine Sx.st_take hT rfl rfl rfl rfl (Sx.x_move hT rfl rfl) ?_
      clear hT; intro a hT
      refine Sx.st_take hT rfl rfl rfl rfl (Sx.x_move hT rfl rfl) ?_
      clear hT; intro a hT
      refine Sx.st_take hT rfl rfl rfl rfl ((fun w => Sx.x_sub w hT rfl rfl rfl (Sx.wrap64 (by omega)))) ?_
      clear hT; intro a hT
      rw [show ((m9 : Int) - (i : Int)) = ((m9 - i : Nat) : Int) from by omega] at hT
      refine Sx.st_take hT rfl rfl rfl rfl (Sx.x_move hT rfl rfl) ?_
      clear hT; intro a hT
      refine Sx.st_take hT rfl rfl rfl rfl (Sx.x_move hT rfl rfl) ?_
      clear hT; intro a hT
      refine Sx.st_take hT rfl rfl rfl rfl ((fun w => Sx.x_add w hT rfl rfl rfl (Sx.wrap64 (by omega)))) ?_
      clear hT; intro a hT
      refine Sx.st_take hT rfl rfl rfl rfl (Sx.x_move hT rfl rfl) ?_
      clear hT; intro a hT
      refine Sx.st_take hT rfl rfl rfl rfl ((fun w => Sx.x_sub w hT rfl rfl rfl (Sx.wrap64 (by omega)))) ?_
      clear hT; intro a hT
      rw [show ((m9 : Int) + (j : Int) - (i : Int)) = ((m9 + j - i : Nat) : Int) from by omega] at hT
      refine Sx.st_take hT rfl rfl rfl rfl (Sx.x_move hT rfl rfl) ?_
      clear hT; intro a hT
      refine Sx.st_take hT rfl rfl rfl rfl (Sx.x_move hT rfl rfl) ?_
      clear hT; intro a hT
      refine Sx.st_call hT rfl rfl rfl rfl rfl Try.can115 rfl (swap_calls hnJ (m9 - i) (m9 + j - i) i (H.pre [0] rfl rfl) (by omega) (by rw [← hnJ]; omega) (by rw [← hnJ]; exact hl)) ?_
      rintro _ w3 ⟨rfl, K⟩
      refine ⟨_, rfl, ?_⟩
      clear hT; intro a hT
      replace H := H.back [0] [] rfl rfl rfl K rfl; clear K
      rw [swN_rot2 hA hB hmi hij] at H
      replace hT := hT.keep [23, 20, 10, 11, 0, 1, 2, 3, 4] rfl
      refine Sx.ser_nil ?_
      refine Sx.then_normal (hK10 _ _ ?_)
      clear hK10
      refine Sx.wp_text [(0, .take), (1, .take), (2, .take), (3, .take)] rfl ?_
      refine Sx.st_take hT rfl rfl rfl rfl (Sx.x_move hT rfl rfl) ?_
      clear hT; intro a hT
      refine Sx.st_take hT rfl rfl rfl rfl (Sx.x_move hT rfl rfl) ?_
      clear hT; intro a hT
      refine Sx.st_take hT rfl rfl rfl rfl ((fun w => Sx.x_sub w hT rfl rfl rfl (Sx.wrap64 (by omega)))) ?_
      clear hT; intro a hT
      rw [show ((j : Int) - (i : Int)) = ((j - i : Nat) : Int) from by omega] at hT
      refine Sx.st_take hT rfl rfl rfl rfl (Sx.x_assign hT rfl rfl) ?_
      clear hT; intro a hT
      replace hT := hT.keep [11, 23, 20, 10, 0, 1, 2, 3, 4] rfl
      refine Sx.ser_nil ?_
      refine Sx.block_normal ?_
      refine Sx.then_normal ?_
      exact ⟨(i, j - i, P1, B1.drop (j - i), B1.take (j - i), A1 ++ Q1), ⟨by show (B1.drop (j - i)).length = _; rw [List.length_drop]; omega, by show (B1.take (j - i)).length = _; rw [List.length_take]; omega, hmi, hi1, by show 1 ≤ j - i; omega, by show n = (P1 ++ B1.drop (j - i) ++ B1.take (j - i) ++ (A1 ++ Q1)).length; simp only [List.length_append, List.length_drop, List.length_take]; omega, by show P1 ++ B1.take (j - i) ++ B1.drop (j - i) ++ (A1 ++ Q1) = _; rw [List.append_assoc P1, List.take_append_drop, ← List.append_assoc, hF]⟩, (hT.keep [10, 11, 0, 1, 2, 3, 4] rfl), (H.keep [0] rfl rfl), by show i + (j - i) < i + j; omega⟩
  · try simp only [Sx.bq] at hc6
    have hij : i = j := by omega
    refine wp_exit ?_
    refine Sx.then_exit ?_
    refine Sx.then_exit ?_
    refine Sx.block_exit ?_
    refine Sx.then_normal (hK3 _ _ ?_)
    clear hK3
    refine Sx.wp_text [(0, .take), (1, .take), (2, .take), (3, .take), (4, .take), (5, .take), (6, .take), (7, .run)] rfl ?_
    refine Sx.st_take hT rfl rfl rfl rfl (Sx.x_move hT rfl rfl) ?_
    clear hT; intro a hT
    refine Sx.st_take hT rfl rfl rfl rfl (Sx.x_move hT rfl rfl) ?_
    clear hT; intro a hT
    refine Sx.st_take hT rfl rfl rfl rfl (Sx.x_move hT rfl rfl) ?_
    clear hT; intro a hT
    refine Sx.st_take hT rfl rfl rfl rfl ((fun w => Sx.x_sub w hT rfl rfl rfl (Sx.wrap64 (by omega)))) ?_
    clear hT; intro a hT
    rw [show ((m9 : Int) - (i : Int)) = ((m9 - i : Nat) : Int) from by omega] at hT
    refine Sx.st_take hT rfl rfl rfl rfl (Sx.x_move hT rfl rfl) ?_
    clear hT; intro a hT
    refine Sx.st_take hT rfl rfl rfl rfl (Sx.x_move hT rfl rfl) ?_
    clear hT; intro a hT
    refine Sx.st_take hT rfl rfl rfl rfl (Sx.x_move hT rfl rfl) ?_
    clear hT; intro a hT
    refine Sx.st_call hT rfl rfl rfl rfl rfl Try.can115 rfl (swap_calls hnJ (m9 - i) m9 i (H.pre [0] rfl rfl) (by omega) (by rw [← hnJ]; omega) (by rw [← hnJ]; exact hl)) ?_
    rintro _ w4 ⟨rfl, K⟩
    refine ⟨_, rfl, ?_⟩
    clear hT; intro a hT
    replace H := H.back [0] [] rfl rfl rfl K rfl; clear K
    rw [swN_rot3 hA (hB.trans hij.symm) hmi, hF] at H
    replace hT := hT.keep [20, 10, 11, 0, 1, 2, 3, 4] rfl
    refine Sx.ser_nil ?_
    refine Sx.done_end ?_
    refine Sx.done0 (fn := Try.f103) hT rfl  ?_
    exact ⟨rfl, H.keep [0] rfl rfl⟩

set_option maxHeartbeats 1000000 in
theorem insert_calls {S : Nat → Prop} {ad : Option Addr} {n c : Nat} (P X Q : List En) {a9 b9 : Nat} {w : World} (H : Hp w S w [cR 36 7 ad n c ((P ++ X ++ Q).flatMap En.cells)]) (hn : n = (P ++ X ++ Q).length) (ha : a9 = P.length) (hb : b9 = a9 + X.length) (hl : n ≤ 1000000) : Calls Try.prog 96 #[.slice ad n c, .int .i64 (a9 : Int), .int .i64 (b9 : Int), .func (.func 61) #[] #[]] w fun e w' => e = .returned (.tuple #[]) ∧ Hp w S w' [cR 36 7 ad n c ((P ++ ordS ltE X ++ Q).flatMap En.cells)] := by
  have hnl : n = P.length + X.length + Q.length := by rw [hn]; simp only [List.length_append]
  refine Sx.calls_into Try.func96 rfl Try.ntmps96 rfl fun a hT => ?_
  replace hT := hT.keep [0, 1, 2, 3] rfl
  refine wp_seq_k fun K1 hK1 => ?_
  refine Sx.wp_text [(0, .take), (1, .take), (2, .take)] rfl ?_
  refine Sx.st_take hT rfl rfl rfl rfl (Sx.x_move hT rfl rfl) ?_
  clear hT; intro a hT
  refine Sx.st_take hT rfl rfl rfl rfl ((fun w => Sx.x_add w hT rfl rfl rfl (Sx.wrap64 (by omega)))) ?_
  clear hT; intro a hT
  rw [show ((a9 : Int) + 1) = ((a9 + 1 : Nat) : Int) from by omega] at hT
  refine Sx.st_take hT rfl rfl rfl rfl (Sx.x_assign hT rfl rfl) ?_
  clear hT; intro a hT
  replace hT := hT.keep [8, 0, 1, 2, 3] rfl
  refine Sx.ser_nil ?_
  refine Sx.then_normal (hK1 _ _ ?_)
  clear hK1
  refine wp_block ?_
  rw [show P ++ X ++ Q = P ++ ordS ltE (X.take 1) ++ X.drop 1 ++ Q from by rw [show ordS ltE (X.take 1) = X.take 1 from by cases X <;> rfl, List.append_assoc P (X.take 1) (X.drop 1), List.take_append_drop]] at H
  refine Sx.wp_loopH (G := Nat) (fun k => [(8, .int .i64 ((a9 + k : Nat) : Int))]) (fun k => [cR 36 7 ad n c ((P ++ ordS ltE (X.take k) ++ X.drop k ++ Q).flatMap En.cells)]) (fun k => 1 ≤ k ∧ (X.length ≠ 0 → k ≤ X.length)) (fun k => X.length - k) 1 (hT.keep [8, 0, 1, 2, 3] rfl) (H.keep [0] rfl rfl) (⟨Nat.le_refl _, fun h => by omega⟩) ?_
  clear hT H
  rintro k a w1 hJ hT H
  replace hT := hT.keep [8, 0, 1, 2, 3] rfl
  replace H := H.keep [0] rfl rfl
  obtain ⟨hk1, hk⟩ := hJ
  refine wp_seq_k fun K2 hK2 => ?_
  refine wp_seq_k fun K3 hK3 => ?_
  refine Sx.wp_text [(0, .take), (1, .take), (2, .take)] rfl ?_
  refine Sx.st_take hT rfl rfl rfl rfl (Sx.x_move hT rfl rfl) ?_
  clear hT; intro a hT
  refine Sx.st_take hT rfl rfl rfl rfl (Sx.x_move hT rfl rfl) ?_
  clear hT; intro a hT
  refine Sx.st_take hT rfl rfl rfl rfl ((fun w => Sx.x_lt w hT rfl rfl rfl)) ?_
  clear hT; intro a hT
  replace hT := hT.keep [14, 8, 0, 1, 2, 3] rfl
  refine Sx.ser_nil ?_
  refine Sx.then_normal (hK3 _ _ ?_)
  clear hK3
  refine Sx.wp_if hT rfl (fun hc4 => ?_) (fun hc4 => ?_)
  · try simp only [Sx.bq] at hc4
    have hkX0 : k < X.length := by omega
    refine wp_skip ?_
    refine Sx.then_normal (hK2 _ _ ?_)
    clear hK2
    refine wp_seq_k fun K5 hK5 => ?_
    refine wp_block ?_
    refine wp_seq_k fun K6 hK6 => ?_
    refine Sx.wp_text [(0, .take), (1, .take)] rfl ?_
    refine Sx.st_take hT rfl rfl rfl rfl (Sx.x_move hT rfl rfl) ?_
    clear hT; intro a hT
    refine Sx.st_take hT rfl rfl rfl rfl (Sx.x_assign hT rfl rfl) ?_
    clear hT; intro a hT
    replace hT := hT.keep [9, 14, 8, 0, 1, 2, 3] rfl
    refine Sx.ser_nil ?_
    refine Sx.then_normal (hK6 _ _ ?_)
    clear hK6
    refine wp_block ?_
    obtain ⟨o, ho⟩ : ∃ x, X[k]? = some x := ⟨_, List.getElem?_eq_getElem (by omega)⟩
    rw [show P ++ ordS ltE (X.take k) ++ X.drop k ++ Q = P ++ ordS ltE (X.take k) ++ o :: ([] ++ (X.drop (k + 1) ++ Q)) from by obtain ⟨hk9, rfl⟩ := List.getElem?_eq_some_iff.1 ho; rw [List.drop_eq_getElem_cons hk9]; simp only [List.append_assoc, List.cons_append, List.nil_append]] at H
    have hol : (ordS ltE (X.take k)).length = k := by rw [(ordS_perm _).length_eq, List.length_take]; omega
    refine Sx.wp_loopH (G := List En × List En) (fun ⟨S1, S2⟩ => [(9, .int .i64 ((a9 + (k - S2.length) : Nat) : Int))]) (fun ⟨S1, S2⟩ => [cR 36 7 ad n c ((P ++ S1 ++ o :: (S2 ++ (X.drop (k + 1) ++ Q))).flatMap En.cells)]) (fun ⟨S1, S2⟩ => ordS ltE (X.take k) = S1 ++ S2 ∧ ∀ y ∈ S2, ltE o y = true) (fun ⟨S1, S2⟩ => S1.length) (ordS ltE (X.take k), []) (hT.keep [9, 14, 8, 0, 1, 2, 3] rfl) (H.keep [0] rfl rfl) (⟨(List.append_nil _).symm, fun y h => by simp at h⟩) ?_
    clear hT H
    rintro ⟨S1, S2⟩ a w2 hJ hT H
    replace hT := hT.keep [9, 14, 8, 0, 1, 2, 3] rfl
    replace H := H.keep [0] rfl rfl
    obtain ⟨hS, hS2⟩ := hJ
    have hSl : S1.length + S2.length = k := by rw [← hol, hS, List.length_append]
    rw [show k - S2.length = S1.length from by omega] at hT
    have hkX : k < X.length := (List.getElem?_eq_some_iff.1 ho).1
    have hrl : n = (P ++ S1 ++ o :: (S2 ++ (X.drop (k + 1) ++ Q))).length := by simp only [List.length_append, List.length_cons, List.length_drop]; omega
    have hgo : (P ++ S1 ++ o :: (S2 ++ (X.drop (k + 1) ++ Q)))[a9 + S1.length]? = some o := get_mid (by rw [List.length_append, ha])
    refine wp_seq_k fun K7 hK7 => ?_
    refine wp_seq_k fun K8 hK8 => ?_
    refine Sx.wp_draws (fun u => Sx.Ext (Sx.No) u) [(0, .take), (1, .take), (2, .take), (3, .take), (4, .take), (5, .take), (6, .take), (7, .take), (8, .held), (9, .take), (10, .take), (11, .take), (12, .take), (13, .held), (14, .run), (15, .take), (16, .take)] (by kernel_rfl) (by kernel_rfl) (fun u E _ => ?_)
    replace H := H.pure E; clear E
    have hH : Sx.Ext (Sx.No) u u := Sx.Ext.refl _ _
    have Hu := H
    refine Sx.st_take hT rfl rfl rfl rfl (Sx.x_move hT rfl rfl) ?_
    clear hT; intro a hT
    refine Sx.st_take hT rfl rfl rfl rfl (Sx.x_move hT rfl rfl) ?_
    clear hT; intro a hT
    refine Sx.st_take hT rfl rfl rfl rfl ((fun w => Sx.x_gt w hT rfl rfl rfl)) ?_
    clear hT; intro a hT
    refine Sx.st_take hT rfl rfl rfl rfl (Sx.x_move hT rfl rfl) ?_
    clear hT; intro a hT
    refine Sx.Sl.two hT 21 rfl (fun hc9 hT => ?_) (fun hc9 hT => ?_)
    · try simp only [Sx.bq] at hc9
      obtain ⟨S1a, z, hS1⟩ : ∃ A z, S1 = A ++ [z] := ⟨S1.dropLast, S1.getLast (fun h9 => by rw [h9] at hc9; simp at hc9), (List.dropLast_concat_getLast _).symm⟩
      have hS1l : S1.length = S1a.length + 1 := by rw [hS1, List.length_append, List.length_singleton]
      have hgz : (P ++ S1 ++ o :: (S2 ++ (X.drop (k + 1) ++ Q)))[a9 + S1.length - 1]? = some z := by
        rw [hS1, show P ++ (S1a ++ [z]) ++ o :: (S2 ++ (X.drop (k + 1) ++ Q)) = (P ++ S1a) ++ z :: (o :: (S2 ++ (X.drop (k + 1) ++ Q))) from by simp only [List.append_assoc, List.cons_append, List.nil_append]]
        exact get_mid (by rw [List.length_append, List.length_append, List.length_singleton]; omega)
      refine Sx.st_take hT rfl rfl rfl rfl (Sx.x_move hT rfl rfl) ?_
      clear hT; intro a hT
      refine Sx.st_take hT rfl rfl rfl rfl (Sx.x_move hT rfl rfl) ?_
      clear hT; intro a hT
      refine Sx.st_take hT rfl rfl rfl rfl (Sx.x_move hT rfl rfl) ?_
      clear hT; intro a hT
      refine Sx.st_take hT rfl rfl rfl rfl (Sx.x_index (k := a9 + S1.length) hT rfl Try.underlying22 Try.ti36 (H.row 0 rfl).sv rfl rfl (by first | rfl | omega) (by omega)) ?_
      clear hT; intro a hT
      refine Sx.st_held hT rfl rfl rfl rfl hH (fun w' h' => Sx.y_loadS hT rfl Try.underlying36 Try.ti36 rfl (((((Hu.heldR 0 rfl h' Sx.off_No).ssn (xs := P ++ S1 ++ o :: (S2 ++ (X.drop (k + 1) ++ Q))) (enc := En.cells) hrl).cs En.len hgo).seg (i := 0) (k := 7) rfl)) (by rfl)) ?_
      clear hT; intro a hT
      refine Sx.st_take hT rfl rfl rfl rfl (Sx.x_move hT rfl rfl) ?_
      clear hT; intro a hT
      refine Sx.st_take hT rfl rfl rfl rfl (Sx.x_move hT rfl rfl) ?_
      clear hT; intro a hT
      refine Sx.st_take hT rfl rfl rfl rfl ((fun w => Sx.x_sub w hT rfl rfl rfl (Sx.wrap64 (by omega)))) ?_
      clear hT; intro a hT
      rw [show (((a9 + S1.length : Nat) : Int) - 1) = ((a9 + S1.length - 1 : Nat) : Int) from by omega] at hT
      refine Sx.st_take hT rfl rfl rfl rfl (Sx.x_index (k := a9 + S1.length - 1) hT rfl Try.underlying22 Try.ti36 (H.row 0 rfl).sv rfl rfl (by first | rfl | omega) (by omega)) ?_
      clear hT; intro a hT
      refine Sx.st_held hT rfl rfl rfl rfl hH (fun w' h' => Sx.y_loadS hT rfl Try.underlying36 Try.ti36 rfl (((((Hu.heldR 0 rfl h' Sx.off_No).ssn (xs := P ++ S1 ++ o :: (S2 ++ (X.drop (k + 1) ++ Q))) (enc := En.cells) hrl).cs En.len hgz).seg (i := 0) (k := 7) rfl)) (by rfl)) ?_
      clear hT; intro a hT
      refine Sx.st_callV hT rfl rfl rfl rfl rfl rfl Try.can61 rfl (sorted1_calls o z _) ?_
      rintro _ w3 ⟨rfl, E⟩
      refine ⟨_, rfl, ?_⟩
      clear hT; intro a hT
      replace H := H.pure E; clear E
      refine Sx.st_take hT rfl rfl rfl rfl ((fun w => Sx.x_lt w hT rfl rfl rfl)) ?_
      clear hT; intro a hT
      refine Sx.st_take hT rfl rfl rfl rfl (Sx.x_pick_t hT rfl rfl rfl) ?_
      clear hT; intro a hT
      replace hT := hT.keep [34, 9, 14, 8, 0, 1, 2, 3] rfl
      clear Hu hH
      refine Sx.ser_calm ?_
      refine Sx.then_normal (hK8 _ _ ?_)
      clear hK8
      refine Sx.wp_if hT rfl (fun hc10 => ?_) (fun hc10 => ?_)
      · try simp only [Sx.bq] at hc10
        have hlz : ltE o z = true := decide_eq_true hc10
        refine wp_skip ?_
        refine Sx.then_normal (hK7 _ _ ?_)
        clear hK7
        refine wp_seq_k fun K11 hK11 => ?_
        refine wp_block ?_
        refine Sx.wp_drawsT (fun u => Sx.Ext (Sx.No) u) (.node [(0, .take), (1, .take), (2, .take), (3, .take), (4, .take), (5, .take), (6, .take), (7, .take), (8, .take), (10, .take), (11, .take), (12, .take)] (.leaf [(9, .run), (13, .run), (14, .take), (15, .run), (16, .take), (17, .run)]) (.leaf [(13, .run), (9, .run), (14, .take), (15, .run), (16, .take), (17, .run)])) (by kernel_rfl) (by kernel_rfl) (fun u E _ => ?_)
        refine Sx.tser_node ?_
        replace H := H.pure E; clear E
        refine Sx.st_take hT rfl rfl rfl rfl (Sx.x_move hT rfl rfl) ?_
        clear hT; intro a hT
        refine Sx.st_take hT rfl rfl rfl rfl (Sx.x_move hT rfl rfl) ?_
        clear hT; intro a hT
        refine Sx.st_take hT rfl rfl rfl rfl (Sx.x_move hT rfl rfl) ?_
        clear hT; intro a hT
        refine Sx.st_take hT rfl rfl rfl rfl (Sx.x_move hT rfl rfl) ?_
        clear hT; intro a hT
        refine Sx.st_take hT rfl rfl rfl rfl ((fun w => Sx.x_sub w hT rfl rfl rfl (Sx.wrap64 (by omega)))) ?_
        clear hT; intro a hT
        rw [show (((a9 + S1.length : Nat) : Int) - 1) = ((a9 + S1.length - 1 : Nat) : Int) from by omega] at hT
        refine Sx.st_take hT rfl rfl rfl rfl (Sx.x_move hT rfl rfl) ?_
        clear hT; intro a hT
        refine Sx.st_take hT rfl rfl rfl rfl (Sx.x_move hT rfl rfl) ?_
        clear hT; intro a hT
        refine Sx.st_take hT rfl rfl rfl rfl ((fun w => Sx.x_sub w hT rfl rfl rfl (Sx.wrap64 (by omega)))) ?_
        clear hT; intro a hT
        rw [show (((a9 + S1.length : Nat) : Int) - 1) = ((a9 + S1.length - 1 : Nat) : Int) from by omega] at hT
        refine Sx.st_take hT rfl rfl rfl rfl (Sx.x_index (k := a9 + S1.length - 1) hT rfl Try.underlying22 Try.ti36 (H.row 0 rfl).sv rfl rfl (by first | rfl | omega) (by omega)) ?_
        clear hT; intro a hT
        refine Sx.st_take hT rfl rfl rfl rfl (Sx.x_move hT rfl rfl) ?_
        clear hT; intro a hT
        refine Sx.st_take hT rfl rfl rfl rfl (Sx.x_move hT rfl rfl) ?_
        clear hT; intro a hT
        refine Sx.st_take hT rfl rfl rfl rfl (Sx.x_index (k := a9 + S1.length) hT rfl Try.underlying22 Try.ti36 (H.row 0 rfl).sv rfl rfl (by first | rfl | omega) (by omega)) ?_
        clear hT; intro a hT
        refine Sx.ser_forkT ?_ ?_
        · skip
          refine Sx.tser_leaf ?_
          refine Sx.st_run hT rfl rfl rfl rfl (Sx.y_loadS hT rfl Try.underlying36 Try.ti36 rfl (((((H.row 0 rfl).ssn (xs := P ++ S1 ++ o :: (S2 ++ (X.drop (k + 1) ++ Q))) (enc := En.cells) hrl).cs En.len hgz).seg (i := 0) (k := 7) rfl)) (by rfl)) ?_
          clear hT; intro a hT
          refine Sx.st_run hT rfl rfl rfl rfl (Sx.y_loadS hT rfl Try.underlying36 Try.ti36 rfl (((((H.row 0 rfl).ssn (xs := P ++ S1 ++ o :: (S2 ++ (X.drop (k + 1) ++ Q))) (enc := En.cells) hrl).cs En.len hgo).seg (i := 0) (k := 7) rfl)) (by rfl)) ?_
          clear hT; intro a hT
          refine Sx.st_take hT rfl rfl rfl rfl (Sx.x_index (k := a9 + S1.length) hT rfl Try.underlying22 Try.ti36 (H.row 0 rfl).sv rfl rfl (by first | rfl | omega) (by omega)) ?_
          clear hT; intro a hT
          refine Sx.st_act hT rfl rfl rfl (Sx.x_storeRowS (k := a9 + S1.length) (r := z) hT rfl Try.ti36 rfl rfl En.len En.one rfl (H.row 0 rfl) hrl (by omega)) ?_
          rintro w4 ⟨hr, E, _⟩
          replace H := H.setR 0 rfl hr E (fun _ hk => .inl hk) rfl; clear hr E
          refine Sx.st_take hT rfl rfl rfl rfl (Sx.x_index (k := a9 + S1.length - 1) hT rfl Try.underlying22 Try.ti36 (H.row 0 rfl).sv rfl rfl (by first | rfl | omega) (by omega)) ?_
          clear hT; intro a hT
          refine Sx.st_act hT rfl rfl rfl (Sx.x_storeRowS (k := a9 + S1.length - 1) (r := o) hT rfl Try.ti36 rfl rfl En.len En.one rfl (H.row 0 rfl) (by rw [List.length_set]; exact hrl) (by omega)) ?_
          rintro w5 ⟨hr, E, _⟩
          replace H := H.setR 0 rfl hr E (fun _ hk => .inl hk) rfl; clear hr E
          replace hT := hT.keep [34, 9, 14, 8, 0, 1, 2, 3] rfl
          refine Sx.ser_calm ?_
          refine Sx.block_normal ?_
          refine Sx.then_normal (hK11 _ _ ?_)
          clear hK11
          refine Sx.wp_text [(0, .take), (1, .take), (2, .take)] rfl ?_
          refine Sx.st_take hT rfl rfl rfl rfl (Sx.x_move hT rfl rfl) ?_
          clear hT; intro a hT
          refine Sx.st_take hT rfl rfl rfl rfl ((fun w => Sx.x_sub w hT rfl rfl rfl (Sx.wrap64 (by omega)))) ?_
          clear hT; intro a hT
          rw [show (((a9 + S1.length : Nat) : Int) - 1) = ((a9 + (k - (z :: S2).length) : Nat) : Int) from by rw [List.length_cons]; omega] at hT
          refine Sx.st_take hT rfl rfl rfl rfl (Sx.x_assign hT rfl rfl) ?_
          clear hT; intro a hT
          replace hT := hT.keep [9, 34, 14, 8, 0, 1, 2, 3] rfl
          refine Sx.ser_nil ?_
          refine Sx.then_normal ?_
          rw [set_mid (by rw [List.length_append, ha]), hS1, show P ++ (S1a ++ [z]) ++ z :: (S2 ++ (X.drop (k + 1) ++ Q)) = (P ++ S1a) ++ z :: (z :: (S2 ++ (X.drop (k + 1) ++ Q))) from by simp only [List.append_assoc, List.cons_append, List.nil_append], set_mid (by rw [List.length_append, List.length_append, List.length_singleton]; omega), show (P ++ S1a) ++ o :: (z :: (S2 ++ (X.drop (k + 1) ++ Q))) = P ++ S1a ++ o :: ((z :: S2) ++ (X.drop (k + 1) ++ Q)) from by simp only [List.append_assoc, List.cons_append]] at H
          exact ⟨(S1a, z :: S2), ⟨by show _ = S1a ++ (z :: S2); rw [hS, hS1]; simp only [List.append_assoc, List.cons_append, List.nil_append], fun y hy => by rcases List.mem_cons.1 hy with rfl | hy; exact hlz; exact hS2 y hy⟩, (hT.keep [9, 14, 8, 0, 1, 2, 3] rfl), (H.keep [0] rfl rfl), by show S1a.length < S1.length; rw [hS1, List.length_append, List.length_singleton]; omega⟩
        · skip
          refine Sx.tser_leaf ?_
          refine Sx.st_run hT rfl rfl rfl rfl (Sx.y_loadS hT rfl Try.underlying36 Try.ti36 rfl (((((H.row 0 rfl).ssn (xs := P ++ S1 ++ o :: (S2 ++ (X.drop (k + 1) ++ Q))) (enc := En.cells) hrl).cs En.len hgo).seg (i := 0) (k := 7) rfl)) (by rfl)) ?_
          clear hT; intro a hT
          refine Sx.st_run hT rfl rfl rfl rfl (Sx.y_loadS hT rfl Try.underlying36 Try.ti36 rfl (((((H.row 0 rfl).ssn (xs := P ++ S1 ++ o :: (S2 ++ (X.drop (k + 1) ++ Q))) (enc := En.cells) hrl).cs En.len hgz).seg (i := 0) (k := 7) rfl)) (by rfl)) ?_
          clear hT; intro a hT
          refine Sx.st_take hT rfl rfl rfl rfl (Sx.x_index (k := a9 + S1.length) hT rfl Try.underlying22 Try.ti36 (H.row 0 rfl).sv rfl rfl (by first | rfl | omega) (by omega)) ?_
          clear hT; intro a hT
          refine Sx.st_act hT rfl rfl rfl (Sx.x_storeRowS (k := a9 + S1.length) (r := z) hT rfl Try.ti36 rfl rfl En.len En.one rfl (H.row 0 rfl) hrl (by omega)) ?_
          rintro w6 ⟨hr, E, _⟩
          replace H := H.setR 0 rfl hr E (fun _ hk => .inl hk) rfl; clear hr E
          refine Sx.st_take hT rfl rfl rfl rfl (Sx.x_index (k := a9 + S1.length - 1) hT rfl Try.underlying22 Try.ti36 (H.row 0 rfl).sv rfl rfl (by first | rfl | omega) (by omega)) ?_
          clear hT; intro a hT
          refine Sx.st_act hT rfl rfl rfl (Sx.x_storeRowS (k := a9 + S1.length - 1) (r := o) hT rfl Try.ti36 rfl rfl En.len En.one rfl (H.row 0 rfl) (by rw [List.length_set]; exact hrl) (by omega)) ?_
          rintro w7 ⟨hr, E, _⟩
          replace H := H.setR 0 rfl hr E (fun _ hk => .inl hk) rfl; clear hr E
          replace hT := hT.keep [34, 9, 14, 8, 0, 1, 2, 3] rfl
          refine Sx.ser_calm ?_
          refine Sx.block_normal ?_
          refine Sx.then_normal (hK11 _ _ ?_)
          clear hK11
          refine Sx.wp_text [(0, .take), (1, .take), (2, .take)] rfl ?_
          refine Sx.st_take hT rfl rfl rfl rfl (Sx.x_move hT rfl rfl) ?_
          clear hT; intro a hT
          refine Sx.st_take hT rfl rfl rfl rfl ((fun w => Sx.x_sub w hT rfl rfl rfl (Sx.wrap64 (by omega)))) ?_
          clear hT; intro a hT
          rw [show (((a9 + S1.length : Nat) : Int) - 1) = ((a9 + (k - (z :: S2).length) : Nat) : Int) from by rw [List.length_cons]; omega] at hT
          refine Sx.st_take hT rfl rfl rfl rfl (Sx.x_assign hT rfl rfl) ?_
          clear hT; intro a hT
          replace hT := hT.keep [9, 34, 14, 8, 0, 1, 2, 3] rfl
          refine Sx.ser_nil ?_
          refine Sx.then_normal ?_
          rw [set_mid (by rw [List.length_append, ha]), hS1, show P ++ (S1a ++ [z]) ++ z :: (S2 ++ (X.drop (k + 1) ++ Q)) = (P ++ S1a) ++ z :: (z :: (S2 ++ (X.drop (k + 1) ++ Q))) from by simp only [List.append_assoc, List.cons_append, List.nil_append], set_mid (by rw [List.length_append, List.length_append, List.length_singleton]; omega), show (P ++ S1a) ++ o :: (z :: (S2 ++ (X.drop (k + 1) ++ Q))) = P ++ S1a ++ o :: ((z :: S2) ++ (X.drop (k + 1) ++ Q)) from by simp only [List.append_assoc, List.cons_append]] at H
          exact ⟨(S1a, z :: S2), ⟨by show _ = S1a ++ (z :: S2); rw [hS, hS1]; simp only [List.append_assoc, List.cons_append, List.nil_append], fun y hy => by rcases List.mem_cons.1 hy with rfl | hy; exact hlz; exact hS2 y hy⟩, (hT.keep [9, 14, 8, 0, 1, 2, 3] rfl), (H.keep [0] rfl rfl), by show S1a.length < S1.length; rw [hS1, List.length_append, List.length_singleton]; omega⟩
      · try simp only [Sx.bq] at hc10
        have hst : S1 = [] ∨ ∃ A z, S1 = A ++ [z] ∧ ltE o z = false := .inr ⟨S1a, z, hS1, decide_eq_false (by omega)⟩
        refine wp_exit ?_
        refine Sx.then_exit ?_
        refine Sx.then_exit ?_
        refine Sx.block_exit ?_
        refine Sx.block_normal ?_
        refine Sx.then_normal (hK5 _ _ ?_)
        clear hK5
        refine Sx.wp_text [(0, .take), (1, .take), (2, .take)] rfl ?_
        refine Sx.st_take hT rfl rfl rfl rfl (Sx.x_move hT rfl rfl) ?_
        clear hT; intro a hT
        refine Sx.st_take hT rfl rfl rfl rfl ((fun w => Sx.x_add w hT rfl rfl rfl (Sx.wrap64 (by omega)))) ?_
        clear hT; intro a hT
        rw [show (((a9 + k : Nat) : Int) + 1) = ((a9 + (k + 1) : Nat) : Int) from by omega] at hT
        refine Sx.st_take hT rfl rfl rfl rfl (Sx.x_assign hT rfl rfl) ?_
        clear hT; intro a hT
        replace hT := hT.keep [8, 34, 9, 14, 0, 1, 2, 3] rfl
        refine Sx.ser_nil ?_
        refine Sx.then_normal ?_
        rw [show P ++ S1 ++ o :: (S2 ++ (X.drop (k + 1) ++ Q)) = P ++ ordS ltE (X.take (k + 1)) ++ X.drop (k + 1) ++ Q from by rw [ordS_snoc ho, hS, insS_stop ltE_ord (by rw [← hS]; exact ordS_srt ltE_ord _) hst hS2]; simp only [List.append_assoc, List.cons_append]] at H
        exact ⟨k + 1, ⟨by omega, fun _ => by omega⟩, (hT.keep [8, 0, 1, 2, 3] rfl), (H.keep [0] rfl rfl), by omega⟩
    · try simp only [Sx.bq] at hc9
      refine Sx.st_skip hT rfl rfl rfl rfl ?_
      clear hT; intro a hT
      refine Sx.st_skip hT rfl rfl rfl rfl ?_
      clear hT; intro a hT
      refine Sx.st_skip hT rfl rfl rfl rfl ?_
      clear hT; intro a hT
      refine Sx.st_skip hT rfl rfl rfl rfl ?_
      clear hT; intro a hT
      refine Sx.st_heldskip hT rfl rfl rfl rfl hH ?_
      clear hT; intro a hT
      refine Sx.st_skip hT rfl rfl rfl rfl ?_
      clear hT; intro a hT
      refine Sx.st_skip hT rfl rfl rfl rfl ?_
      clear hT; intro a hT
      refine Sx.st_skip hT rfl rfl rfl rfl ?_
      clear hT; intro a hT
      refine Sx.st_skip hT rfl rfl rfl rfl ?_
      clear hT; intro a hT
      refine Sx.st_heldskip hT rfl rfl rfl rfl hH ?_
      clear hT; intro a hT
      refine Sx.st_runskip hT rfl rfl rfl rfl ?_
      clear hT; intro a hT
      refine Sx.st_skip hT rfl rfl rfl rfl ?_
      clear hT; intro a hT
      refine Sx.st_take hT rfl rfl rfl rfl (Sx.x_pick_f hT rfl rfl rfl) ?_
      clear hT; intro a hT
      replace hT := hT.keep [34, 9, 14, 8, 0, 1, 2, 3] rfl
      clear Hu hH
      refine Sx.ser_calm ?_
      refine Sx.then_normal (hK8 _ _ ?_)
      clear hK8
      refine Sx.wp_if hT rfl (fun h => by cases h) (fun _ => ?_)
      have hst : S1 = [] ∨ ∃ A z, S1 = A ++ [z] ∧ ltE o z = false := .inl (List.eq_nil_of_length_eq_zero (by omega))
      refine wp_exit ?_
      refine Sx.then_exit ?_
      refine Sx.then_exit ?_
      refine Sx.block_exit ?_
      refine Sx.block_normal ?_
      refine Sx.then_normal (hK5 _ _ ?_)
      clear hK5
      refine Sx.wp_text [(0, .take), (1, .take), (2, .take)] rfl ?_
      refine Sx.st_take hT rfl rfl rfl rfl (Sx.x_move hT rfl rfl) ?_
      clear hT; intro a hT
      refine Sx.st_take hT rfl rfl rfl rfl ((fun w => Sx.x_add w hT rfl rfl rfl (Sx.wrap64 (by omega)))) ?_
      clear hT; intro a hT
      rw [show (((a9 + k : Nat) : Int) + 1) = ((a9 + (k + 1) : Nat) : Int) from by omega] at hT
      refine Sx.st_take hT rfl rfl rfl rfl (Sx.x_assign hT rfl rfl) ?_
      clear hT; intro a hT
      replace hT := hT.keep [8, 34, 9, 14, 0, 1, 2, 3] rfl
      refine Sx.ser_nil ?_
      refine Sx.then_normal ?_
      rw [show P ++ S1 ++ o :: (S2 ++ (X.drop (k + 1) ++ Q)) = P ++ ordS ltE (X.take (k + 1)) ++ X.drop (k + 1) ++ Q from by rw [ordS_snoc ho, hS, insS_stop ltE_ord (by rw [← hS]; exact ordS_srt ltE_ord _) hst hS2]; simp only [List.append_assoc, List.cons_append]] at H
      exact ⟨k + 1, ⟨by omega, fun _ => by omega⟩, (hT.keep [8, 0, 1, 2, 3] rfl), (H.keep [0] rfl rfl), by omega⟩
  · try simp only [Sx.bq] at hc4
    have hkE : X.length ≤ k := by omega
    rw [List.take_of_length_le hkE, List.drop_eq_nil_of_le hkE, List.append_nil] at H
    refine wp_exit ?_
    refine Sx.then_exit ?_
    refine Sx.then_exit ?_
    refine Sx.block_exit ?_
    refine Sx.done_end ?_
    refine Sx.done0 (fn := Try.f96) hT rfl  ?_
    exact ⟨rfl, H.keep [0] rfl rfl⟩

end Go.Proofs.Ytpggijfpkgglmaa
