/- Walks: what the chapter fixes. -/
import Derived.Test.YtpggijfpkgglmaaA12
set_option linter.unusedSimpArgs false
set_option linter.unusedVariables false
namespace Go.Proofs.Ytpggijfpkgglmaa
open Sx
theorem Try.bld33 : Sx.Bld Try.prog 33 #[.int .i64 0, .int .i64 0, .int .i64 0] #[(0, 1), (1, 1), (2, 1)] := ⟨_, _, _, _, Try.ti33, rfl, Try.underlying33, fun w => by simp [Sx.placesOf, Sx.run_sizeOf Try.ti3]⟩
theorem Try.bld41 : Sx.Bld Try.prog 41 #[.string .empty, .int .i64 0, .float .f64 0, .string .empty] #[(0, 1), (1, 3)] := ⟨_, _, _, _, Try.ti41, rfl, Try.underlying41, fun w => by simp [Sx.placesOf, Sx.run_sizeOf Try.ti39, Sx.run_sizeOf Try.ti9]⟩
theorem Try.bld51 : Sx.Bld Try.prog 51 #[.int .i64 0, .int .i64 0, .int .i64 0, .int .i64 0, .int .i64 0, .int .i64 0, .slice none 0 0, .slice none 0 0] #[(0, 7), (7, 1)] := ⟨_, _, _, _, Try.ti51, rfl, Try.underlying51, fun w => by simp [Sx.placesOf, Sx.run_sizeOf Try.ti36, Sx.run_sizeOf Try.ti49]⟩
theorem Try.bld59 : Sx.Bld Try.prog 59 #[.string .empty, .int .i64 0, .float .f64 0, .string .empty, .int .i64 0, .int .i64 0, .int .i64 0] #[(0, 1), (1, 3), (4, 3)] := ⟨_, _, _, _, Try.ti59, rfl, Try.underlying59, fun w => by simp [Sx.placesOf, Sx.run_sizeOf Try.ti24, Sx.run_sizeOf Try.ti39, Sx.run_sizeOf Try.ti9]⟩
theorem Try.can8 : Sx.Can Try.prog 8 := ⟨_, Try.func8, by kernel_rfl, rfl⟩
theorem Try.can32 : Sx.Can Try.prog 32 := ⟨_, Try.func32, by kernel_rfl, rfl⟩
def f1 : Wt := ⟨[97], ⟨1, 4607182418800017408, []⟩⟩
def f2 : Wt := ⟨[97], vz⟩
def f3 : Wt := ⟨[98], ⟨1, 4607182418800017408, []⟩⟩
def FT : Ep := ⟨⟨1, 1, 1⟩, ⟨5, 0, 1⟩, [f1]⟩
def FU : Ep := ⟨⟨1, 1, 2⟩, ⟨7, 0, 1⟩, [f2, f3]⟩
theorem fx1 : (ordE [FU, FT]).2 = 0 := by decide +kernel
theorem fx2 : ordL Ep.s [FU, FT] = [FT, FU] := by decide +kernel
theorem fx3 : makesF [FT, FU] ⟨6, 0, 1⟩ false = [f1] := by decide +kernel
theorem fx4 : makesF [FT, FU] ⟨7, 0, 1⟩ false = [f3] := by decide +kernel
theorem fx5 : makesF [FT, FU] ⟨7, 0, 1⟩ true = [f1] := by decide +kernel
theorem fx6 : rdF [(FU, [⟨[97], vz, sz0⟩]), (FT, [])] = (0, 19) := by decide +kernel
theorem map_two {L : List En} {a b : Ep} (h : L.map En.p = [a, b]) : ∃ x y, L = [x, y] ∧ x.p = a ∧ y.p = b := by
  match L, h with
  | [x, y], h => simp only [List.map_cons, List.map_nil, List.cons.injEq, and_true] at h; exact ⟨x, y, rfl, h.1, h.2⟩
theorem fam_en {w : World} {L : List En} (h : Fam 41 4 En.rw w L) (hl : ∀ x ∈ L, x.ws.length ≤ 1000000) : ∀ x ∈ L, Ss w x.ad Wt.cells 4 x.ws ∧ (x.ad = none → x.ws.length = 0 ∧ x.c = 0) ∧ x.ws.length ≤ 1000000 := fun x hx =>
  ⟨Row.ssn (xs := x.ws) (enc := Wt.cells) (h.row x hx) rfl, rownil (h.row x hx), hl x hx⟩

theorem at_calls (z : Int) (w : World) : Calls Try.prog 32 #[.int .i64 z] w fun e w' => e = .returned (.agg #[.int .i64 (⟨z, 0, 1⟩ : Stp).w, .int .i64 (⟨z, 0, 1⟩ : Stp).l, .int .i64 (⟨z, 0, 1⟩ : Stp).n]) ∧ Ext No w w' := by
  refine Sx.calls_into Try.func32 rfl Try.ntmps32 rfl fun a hT => ?_
  replace hT := hT.keep [0] rfl
  have H : Sx.Hp w (Sx.No) w [] := Sx.Hp.start _ _
  refine wp_seq_k fun K1 hK1 => ?_
  refine Sx.wp_text [(0, .run)] rfl ?_
  refine Sx.st_eff hT rfl rfl rfl rfl (Sx.y_alloc hT rfl Try.ti24 rfl _) ?_
  clear hT; rintro _ w1 ⟨b1, rfl, N⟩ a hT
  replace H := H.new N; clear N
  replace hT := hT.keep [2, 0] rfl
  refine Sx.ser_nil ?_
  refine Sx.then_normal (hK1 _ _ ?_)
  clear hK1
  refine wp_seq_k fun K2 hK2 => ?_
  refine Sx.wp_text [(0, .take), (1, .take), (2, .run)] rfl ?_
  refine Sx.st_take hT rfl rfl rfl rfl (Sx.x_move hT rfl rfl) ?_
  clear hT; intro a hT
  refine Sx.st_take hT rfl rfl rfl rfl (Sx.x_bld hT rfl Try.bld24 rfl rfl) ?_
  clear hT; intro a hT
  refine Sx.st_act hT rfl rfl rfl (Sx.y_storeS hT rfl Try.ti24 rfl rfl rfl rfl rfl (H.blk 0 rfl) rfl) ?_
  rintro w2 ⟨hb, E, _⟩
  replace H := H.setB 0 rfl hb E rfl; clear hb E
  replace hT := hT.keep [2, 0] rfl
  refine Sx.ser_nil ?_
  refine Sx.then_normal (hK2 _ _ ?_)
  clear hK2
  refine wp_ret ?_
  refine Sx.done1 (fn := Try.f32) hT rfl (.cell (hT.get 2 _ rfl) (Sx.run_resS Try.underlying24 Try.ti24 ((H.blk 0 rfl).seg (k := 3) rfl) (by rfl))) ?_
  exact ⟨rfl, H.ext⟩

set_option maxHeartbeats 1000000 in
theorem first_calls (w : World) : Calls Try.prog 8 #[] w fun e w' => e = .returned (.bool true) ∧ Ext No w w' := by
  refine Sx.calls_into Try.func8 rfl Try.ntmps8 rfl fun a hT => ?_
  replace hT := hT.keep [] rfl
  have H : Sx.Hp w (Sx.No) w [] := Sx.Hp.start _ _
  refine wp_seq_k fun K1 hK1 => ?_
  refine Sx.wp_text [(0, .take)] rfl ?_
  refine Sx.st_take hT rfl rfl rfl rfl (Sx.x_assign hT rfl rfl) ?_
  clear hT; intro a hT
  replace hT := hT.keep [0] rfl
  refine Sx.ser_nil ?_
  refine Sx.then_normal (hK1 _ _ ?_)
  clear hK1
  refine wp_seq_k fun K2 hK2 => ?_
  refine Sx.wp_text [(0, .take), (1, .run), (2, .run)] rfl ?_
  refine Sx.st_take hT rfl rfl rfl rfl (Sx.x_bld hT rfl Try.bld39 rfl rfl) ?_
  clear hT; intro a hT
  refine Sx.st_eff hT rfl rfl rfl rfl (Sx.y_alloc hT rfl Try.ti39 rfl _) ?_
  clear hT; rintro _ w1 ⟨b1, rfl, N⟩ a hT
  replace H := H.new N; clear N
  refine Sx.st_act hT rfl rfl rfl (Sx.y_storeS hT rfl Try.ti39 rfl rfl rfl rfl rfl (H.blk 0 rfl) rfl) ?_
  rintro w2 ⟨hb, E, _⟩
  replace H := H.setB 0 rfl hb E rfl; clear hb E
  replace hT := hT.keep [1, 0] rfl
  refine Sx.ser_nil ?_
  refine Sx.then_normal (hK2 _ _ ?_)
  clear hK2
  refine wp_seq_k fun K3 hK3 => ?_
  refine Sx.wp_join (G := Nat × Nat) (fun ⟨b92, b93⟩ => [(2, .pointer (some ⟨b93, 0, none⟩))]) (fun ⟨b92, b93⟩ => [cB b92 ([f1].flatMap Wt.cells) 41, cB b93 (En.cells (⟨⟨1, 1, 1⟩, ⟨5, 0, 1⟩, some ⟨b92, 0, none⟩, 1, [f1]⟩ : En)) 36]) (fun ⟨b92, b93⟩ => True) (hT.keep [1, 0] rfl) (H.keep [0] rfl rfl) hK3 ?_ ?_
  · clear hT H hK3
    rintro ⟨b92, b93⟩ a w3 hJ hT H
    replace hT := hT.keep [2, 1, 0] rfl
    replace H := H.keep [0, 1, 2] rfl rfl
    clear hJ
    refine wp_seq_k fun K4 hK4 => ?_
    refine Sx.wp_join (G := Nat × Nat) (fun ⟨b94, b95⟩ => [(3, .pointer (some ⟨b95, 0, none⟩))]) (fun ⟨b94, b95⟩ => [cB b94 ([f2, f3].flatMap Wt.cells) 41, cB b95 (En.cells (⟨⟨1, 1, 2⟩, ⟨7, 0, 1⟩, some ⟨b94, 0, none⟩, 2, [f2, f3]⟩ : En)) 36]) (fun ⟨b94, b95⟩ => True) (hT.keep [2, 1, 0] rfl) (H.keep [0, 1, 2] rfl rfl) hK4 ?_ ?_
    · clear hT H hK4
      rintro ⟨b94, b95⟩ a w4 hJ hT H
      replace hT := hT.keep [3, 2, 1, 0] rfl
      replace H := H.keep [0, 1, 2, 3, 4] rfl rfl
      clear hJ
      refine wp_seq_k fun K5 hK5 => ?_
      refine Sx.wp_text [(0, .run), (1, .run), (2, .run), (3, .run), (4, .take), (5, .take), (6, .take), (7, .take), (8, .take)] rfl ?_
      refine Sx.st_run hT rfl rfl rfl rfl (Sx.y_loadS hT rfl Try.underlying36 Try.ti36 rfl ((H.blk 1 rfl).seg (k := 7) rfl) (by rfl)) ?_
      clear hT; intro a hT
      refine Sx.st_run hT rfl rfl rfl rfl (Sx.y_loadS hT rfl Try.underlying36 Try.ti36 rfl ((H.blk 3 rfl).seg (k := 7) rfl) (by rfl)) ?_
      clear hT; intro a hT
      refine Sx.st_eff hT rfl rfl rfl rfl (Sx.x_bldS hT rfl Try.underlying22 Try.ti36 rfl rfl rfl rfl rfl rfl rfl _) ?_
      clear hT; rintro _ w5 ⟨b2, rfl, N⟩ a hT
      replace H := H.new N; clear N
      refine Sx.st_call hT rfl rfl rfl rfl rfl Try.can11 rfl (OrderA_calls [(⟨⟨1, 1, 2⟩, ⟨7, 0, 1⟩, some ⟨b94, 0, none⟩, 2, [f2, f3]⟩ : En), (⟨⟨1, 1, 1⟩, ⟨5, 0, 1⟩, some ⟨b92, 0, none⟩, 1, [f1]⟩ : En)] (Blk.svn (m := 2) (sz := 7) (H.blk 0 rfl) rfl : Ss _ _ En.cells 7 [(⟨⟨1, 1, 2⟩, ⟨7, 0, 1⟩, some ⟨b94, 0, none⟩, 2, [f2, f3]⟩ : En), (⟨⟨1, 1, 1⟩, ⟨5, 0, 1⟩, some ⟨b92, 0, none⟩, 1, [f1]⟩ : En)]) (fun x hx => by rcases List.mem_cons.1 hx with rfl | hx; exact ⟨(Blk.svn (m := 2) (sz := 4) (H.blk 1 rfl) rfl : Ss _ _ Wt.cells 4 [f2, f3]), (fun h => by cases h), (by show (2 : Nat) ≤ 1000000; decide)⟩; rcases List.mem_cons.1 hx with rfl | hx; exact ⟨(Blk.svn (m := 1) (sz := 4) (H.blk 3 rfl) rfl : Ss _ _ Wt.cells 4 [f1]), (fun h => by cases h), (by show (1 : Nat) ≤ 1000000; decide)⟩; cases hx) (by show (2 : Nat) ≤ 1000000; decide) (by show (2 : Nat) ≤ 2; decide)) ?_
      rintro _ w6 ⟨ada, ca, L1, rfl, K, hA⟩
      refine ⟨_, rfl, ?_⟩
      clear hT; intro a hT
      replace H := H.more K rfl; clear K
      rw [show List.map En.p [(⟨⟨1, 1, 2⟩, ⟨7, 0, 1⟩, some ⟨b94, 0, none⟩, 2, [f2, f3]⟩ : En), (⟨⟨1, 1, 1⟩, ⟨5, 0, 1⟩, some ⟨b92, 0, none⟩, 1, [f1]⟩ : En)] = [FU, FT] from rfl] at hA hT
      rw [if_pos fx1, fx2] at hA
      rw [fx1] at hT
      obtain ⟨⟨tx, sx, adx, cx, wx⟩, ⟨ty, sy, ady, cy, wy⟩, rfl, hx, hy⟩ := map_two hA
      obtain ⟨rfl, rfl, rfl⟩ : tx = ⟨1, 1, 1⟩ ∧ sx = ⟨5, 0, 1⟩ ∧ wx = [f1] := by simpa [En.p, FT] using hx
      obtain ⟨rfl, rfl, rfl⟩ : ty = ⟨1, 1, 2⟩ ∧ sy = ⟨7, 0, 1⟩ ∧ wy = [f2, f3] := by simpa [En.p, FU] using hy
      refine Sx.st_take hT rfl rfl rfl rfl (Sx.x_move hT rfl rfl) ?_
      clear hT; intro a hT
      refine Sx.st_take hT rfl rfl rfl rfl (Sx.x_extractL hT rfl rfl rfl) ?_
      clear hT; intro a hT
      refine Sx.st_take hT rfl rfl rfl rfl (Sx.x_extractL hT rfl rfl rfl) ?_
      clear hT; intro a hT
      refine Sx.st_take hT rfl rfl rfl rfl (Sx.x_assign hT rfl rfl) ?_
      clear hT; intro a hT
      refine Sx.st_take hT rfl rfl rfl rfl (Sx.x_assign hT rfl rfl) ?_
      clear hT; intro a hT
      replace hT := hT.keep [5, 4, 3, 2, 1, 0] rfl
      refine Sx.ser_nil ?_
      refine Sx.then_normal (hK5 _ _ ?_)
      clear hK5
      refine wp_seq_k fun K6 hK6 => ?_
      refine Sx.wp_text [(0, .take), (1, .run), (2, .run), (3, .take)] rfl ?_
      refine Sx.st_take hT rfl rfl rfl rfl (Sx.x_move hT rfl rfl) ?_
      clear hT; intro a hT
      refine Sx.st_call hT rfl rfl rfl rfl rfl Try.can32 rfl (at_calls 6 _) ?_
      rintro _ w7 ⟨rfl, E⟩
      refine ⟨_, rfl, ?_⟩
      clear hT; intro a hT
      replace H := H.pure E; clear E
      refine Sx.st_call hT rfl rfl rfl rfl rfl Try.can15 rfl (SnapA_calls [(⟨⟨1, 1, 1⟩, ⟨5, 0, 1⟩, adx, cx, [f1]⟩ : En), (⟨⟨1, 1, 2⟩, ⟨7, 0, 1⟩, ady, cy, [f2, f3]⟩ : En)] ⟨6, 0, 1⟩ ((H.row 0 rfl).ssn rfl) (fam_en (H.fam 1 rfl) (by intro x hx; rcases List.mem_cons.1 hx with rfl | hx; show (List.length [f1]) ≤ _; decide; rcases List.mem_cons.1 hx with rfl | hx; show (List.length [f2, f3]) ≤ _; decide; cases hx)) (by show 2 ≤ _; decide) (by show 3 ≤ _; decide)) ?_
      rintro _ w8 ⟨adz5, cz5, rfl, K⟩
      refine ⟨_, rfl, ?_⟩
      clear hT; intro a hT
      replace H := H.more K rfl; clear K
      rw [show makesF (List.map En.p [(⟨⟨1, 1, 1⟩, ⟨5, 0, 1⟩, adx, cx, [f1]⟩ : En), (⟨⟨1, 1, 2⟩, ⟨7, 0, 1⟩, ady, cy, [f2, f3]⟩ : En)]) ⟨6, 0, 1⟩ false = _ from fx3] at H hT
      refine Sx.st_take hT rfl rfl rfl rfl (Sx.x_assign hT rfl rfl) ?_
      clear hT; intro a hT
      replace hT := hT.keep [6, 5, 4, 3, 2, 1, 0] rfl
      refine Sx.ser_nil ?_
      refine Sx.then_normal (hK6 _ _ ?_)
      clear hK6
      refine wp_seq_k fun K7 hK7 => ?_
      refine Sx.wp_text [(0, .take), (1, .run), (2, .run), (3, .take)] rfl ?_
      refine Sx.st_take hT rfl rfl rfl rfl (Sx.x_move hT rfl rfl) ?_
      clear hT; intro a hT
      refine Sx.st_call hT rfl rfl rfl rfl rfl Try.can32 rfl (at_calls 7 _) ?_
      rintro _ w9 ⟨rfl, E⟩
      refine ⟨_, rfl, ?_⟩
      clear hT; intro a hT
      replace H := H.pure E; clear E
      refine Sx.st_call hT rfl rfl rfl rfl rfl Try.can15 rfl (SnapA_calls [(⟨⟨1, 1, 1⟩, ⟨5, 0, 1⟩, adx, cx, [f1]⟩ : En), (⟨⟨1, 1, 2⟩, ⟨7, 0, 1⟩, ady, cy, [f2, f3]⟩ : En)] ⟨7, 0, 1⟩ ((H.row 1 rfl).ssn rfl) (fam_en (H.fam 2 rfl) (by intro x hx; rcases List.mem_cons.1 hx with rfl | hx; show (List.length [f1]) ≤ _; decide; rcases List.mem_cons.1 hx with rfl | hx; show (List.length [f2, f3]) ≤ _; decide; cases hx)) (by show 2 ≤ _; decide) (by show 3 ≤ _; decide)) ?_
      rintro _ w10 ⟨adz6, cz6, rfl, K⟩
      refine ⟨_, rfl, ?_⟩
      clear hT; intro a hT
      replace H := H.more K rfl; clear K
      rw [show makesF (List.map En.p [(⟨⟨1, 1, 1⟩, ⟨5, 0, 1⟩, adx, cx, [f1]⟩ : En), (⟨⟨1, 1, 2⟩, ⟨7, 0, 1⟩, ady, cy, [f2, f3]⟩ : En)]) ⟨7, 0, 1⟩ false = _ from fx4] at H hT
      refine Sx.st_take hT rfl rfl rfl rfl (Sx.x_assign hT rfl rfl) ?_
      clear hT; intro a hT
      replace hT := hT.keep [7, 6, 5, 4, 3, 2, 1, 0] rfl
      refine Sx.ser_nil ?_
      refine Sx.then_normal (hK7 _ _ ?_)
      clear hK7
      refine wp_seq_k fun K8 hK8 => ?_
      refine Sx.wp_text [(0, .take), (1, .run), (2, .run), (3, .take)] rfl ?_
      refine Sx.st_take hT rfl rfl rfl rfl (Sx.x_move hT rfl rfl) ?_
      clear hT; intro a hT
      refine Sx.st_call hT rfl rfl rfl rfl rfl Try.can32 rfl (at_calls 7 _) ?_
      rintro _ w11 ⟨rfl, E⟩
      refine ⟨_, rfl, ?_⟩
      clear hT; intro a hT
      replace H := H.pure E; clear E
      refine Sx.st_call hT rfl rfl rfl rfl rfl Try.can17 rfl (BelowA_calls [(⟨⟨1, 1, 1⟩, ⟨5, 0, 1⟩, adx, cx, [f1]⟩ : En), (⟨⟨1, 1, 2⟩, ⟨7, 0, 1⟩, ady, cy, [f2, f3]⟩ : En)] ⟨7, 0, 1⟩ ((H.row 2 rfl).ssn rfl) (fam_en (H.fam 3 rfl) (by intro x hx; rcases List.mem_cons.1 hx with rfl | hx; show (List.length [f1]) ≤ _; decide; rcases List.mem_cons.1 hx with rfl | hx; show (List.length [f2, f3]) ≤ _; decide; cases hx)) (by show 2 ≤ _; decide) (by show 3 ≤ _; decide)) ?_
      rintro _ w12 ⟨adz7, cz7, rfl, K⟩
      refine ⟨_, rfl, ?_⟩
      clear hT; intro a hT
      replace H := H.more K rfl; clear K
      rw [show makesF (List.map En.p [(⟨⟨1, 1, 1⟩, ⟨5, 0, 1⟩, adx, cx, [f1]⟩ : En), (⟨⟨1, 1, 2⟩, ⟨7, 0, 1⟩, ady, cy, [f2, f3]⟩ : En)]) ⟨7, 0, 1⟩ true = _ from fx5] at H hT
      refine Sx.st_take hT rfl rfl rfl rfl (Sx.x_assign hT rfl rfl) ?_
      clear hT; intro a hT
      replace hT := hT.keep [8, 7, 6, 5, 4, 3, 2, 1, 0] rfl
      refine Sx.ser_nil ?_
      refine Sx.then_normal (hK8 _ _ ?_)
      clear hK8
      refine wp_seq_k fun K9 hK9 => ?_
      refine Sx.wp_text [(0, .run), (1, .take), (2, .run), (3, .take), (4, .run), (5, .take), (6, .run), (7, .run), (8, .take), (9, .take), (10, .take), (11, .take), (12, .take)] rfl ?_
      refine Sx.st_run hT rfl rfl rfl rfl (Sx.y_loadS hT rfl Try.underlying36 Try.ti36 rfl ((H.blk 7 rfl).seg (k := 7) rfl) (by rfl)) ?_
      clear hT; intro a hT
      refine Sx.st_take hT rfl rfl rfl rfl (Sx.x_bld hT rfl Try.bld59 rfl rfl) ?_
      clear hT; intro a hT
      refine Sx.st_eff hT rfl rfl rfl rfl (Sx.y_slice1 hT rfl Try.underlying49 Try.ti59 rfl rfl rfl rfl rfl rfl _) ?_
      clear hT; rintro _ w13 ⟨b3, rfl, N⟩ a hT
      replace H := H.new N; clear N
      refine Sx.st_take hT rfl rfl rfl rfl (Sx.x_bld hT rfl Try.bld51 rfl rfl) ?_
      clear hT; intro a hT
      refine Sx.st_run hT rfl rfl rfl rfl (Sx.y_loadS hT rfl Try.underlying36 Try.ti36 rfl ((H.blk 10 rfl).seg (k := 7) rfl) (by rfl)) ?_
      clear hT; intro a hT
      refine Sx.st_take hT rfl rfl rfl rfl (Sx.x_bld hT rfl Try.bld51 rfl rfl) ?_
      clear hT; intro a hT
      refine Sx.st_eff hT rfl rfl rfl rfl (Sx.x_bldS hT rfl Try.underlying46 Try.ti51 rfl rfl rfl rfl rfl rfl rfl _) ?_
      clear hT; rintro _ w14 ⟨b4, rfl, N⟩ a hT
      replace H := H.new N; clear N
      refine Sx.st_call hT rfl rfl rfl rfl rfl Try.can20 rfl (ReadsA_calls [(⟨⟨1, 1, 2⟩, ⟨7, 0, 1⟩, some ⟨b94, 0, none⟩, 2, [f2, f3], some ⟨b3, 0, none⟩, 1, [⟨[97], vz, sz0⟩]⟩ : Dn), (⟨⟨1, 1, 1⟩, ⟨5, 0, 1⟩, some ⟨b92, 0, none⟩, 1, [f1], none, 0, []⟩ : Dn)] (Blk.svn (m := 2) (sz := 8) (H.blk 0 rfl) rfl : Ss _ _ Dn.cells 8 [(⟨⟨1, 1, 2⟩, ⟨7, 0, 1⟩, some ⟨b94, 0, none⟩, 2, [f2, f3], some ⟨b3, 0, none⟩, 1, [⟨[97], vz, sz0⟩]⟩ : Dn), (⟨⟨1, 1, 1⟩, ⟨5, 0, 1⟩, some ⟨b92, 0, none⟩, 1, [f1], none, 0, []⟩ : Dn)]) (fun x hx => by rcases List.mem_cons.1 hx with rfl | hx; exact ⟨(Blk.svn (m := 2) (sz := 4) (H.blk 8 rfl) rfl : Ss _ _ Wt.cells 4 [f2, f3]), (fun h => by cases h), (by show (2 : Nat) ≤ 1000000; decide)⟩; rcases List.mem_cons.1 hx with rfl | hx; exact ⟨(Blk.svn (m := 1) (sz := 4) (H.blk 10 rfl) rfl : Ss _ _ Wt.cells 4 [f1]), (fun h => by cases h), (by show (1 : Nat) ≤ 1000000; decide)⟩; cases hx) (fun x hx => by rcases List.mem_cons.1 hx with rfl | hx; exact ⟨(Blk.svn (m := 1) (sz := 7) (H.blk 1 rfl) rfl : Ss _ _ Sn.cells 7 [⟨[97], vz, sz0⟩]), (by intro y hy; rcases List.mem_cons.1 hy with rfl | hy; exact (by decide); cases hy), (by show (1 : Nat) ≤ 9223372036854775806; decide)⟩; rcases List.mem_cons.1 hx with rfl | hx; exact ⟨Ss.nil _ Sn.cells 7, (fun y hy => by cases hy), (by show (0 : Nat) ≤ 9223372036854775806; decide)⟩; cases hx) (by show (2 : Nat) ≤ 1000000; decide) (by show (3 : Nat) ≤ 900000; decide)) ?_
      rintro _ w15 ⟨rfl, E⟩
      refine ⟨_, rfl, ?_⟩
      clear hT; intro a hT
      replace H := H.pure E; clear E
      rw [show List.map Dn.p [(⟨⟨1, 1, 2⟩, ⟨7, 0, 1⟩, some ⟨b94, 0, none⟩, 2, [f2, f3], some ⟨b3, 0, none⟩, 1, [⟨[97], vz, sz0⟩]⟩ : Dn), (⟨⟨1, 1, 1⟩, ⟨5, 0, 1⟩, some ⟨b92, 0, none⟩, 1, [f1], none, 0, []⟩ : Dn)] = [(FU, [⟨[97], vz, sz0⟩]), (FT, [])] from rfl, fx6] at hT
      refine Sx.st_take hT rfl rfl rfl rfl (Sx.x_move hT rfl rfl) ?_
      clear hT; intro a hT
      refine Sx.st_take hT rfl rfl rfl rfl (Sx.x_extractL hT rfl rfl rfl) ?_
      clear hT; intro a hT
      refine Sx.st_take hT rfl rfl rfl rfl (Sx.x_extractL hT rfl rfl rfl) ?_
      clear hT; intro a hT
      refine Sx.st_take hT rfl rfl rfl rfl (Sx.x_assign hT rfl rfl) ?_
      clear hT; intro a hT
      refine Sx.st_take hT rfl rfl rfl rfl (Sx.x_assign hT rfl rfl) ?_
      clear hT; intro a hT
      replace hT := hT.keep [10, 9, 8, 7, 6, 5, 4, 3, 2, 1, 0] rfl
      refine Sx.ser_nil ?_
      refine Sx.then_normal (hK9 _ _ ?_)
      clear hK9
      refine wp_seq_k fun K10 hK10 => ?_
      refine Sx.wp_draws (fun u => Sx.Ext (Sx.No) u) [(0, .take), (1, .take), (2, .take), (3, .take), (4, .take), (5, .take), (6, .take), (7, .take), (8, .take), (9, .take), (10, .take), (11, .held), (12, .take), (13, .held), (14, .take), (15, .take), (16, .take), (17, .take), (18, .take), (19, .take), (20, .take), (21, .take), (22, .take), (23, .take), (24, .take), (25, .held), (26, .take), (27, .take), (28, .take), (29, .take), (30, .take), (31, .take), (32, .take), (33, .take), (34, .take), (35, .take), (36, .take), (37, .held), (38, .take), (39, .take), (40, .take), (41, .take), (42, .take), (43, .take), (44, .take), (45, .take), (46, .take), (47, .take), (48, .take), (49, .take), (50, .take), (51, .take), (52, .take), (53, .take)] (by kernel_rfl) (by kernel_rfl) (fun u E _ => ?_)
      replace H := H.pure E; clear E
      have hH : Sx.Ext (Sx.No) u u := Sx.Ext.refl _ _
      have Hu := H
      refine Sx.st_take hT rfl rfl rfl rfl (Sx.x_move hT rfl rfl) ?_
      clear hT; intro a hT
      refine Sx.st_take hT rfl rfl rfl rfl ((fun w => Sx.x_eq w hT rfl rfl rfl)) ?_
      clear hT; intro a hT
      refine Sx.st_take hT rfl rfl rfl rfl (Sx.x_move hT rfl rfl) ?_
      clear hT; intro a hT
      refine Sx.Sl.two hT 54 rfl (fun hc11 hT => ?_) (fun hc11 hT => ?_)
      · try simp only [Sx.bq] at hc11
        refine Sx.st_take hT rfl rfl rfl rfl (Sx.x_move hT rfl rfl) ?_
        clear hT; intro a hT
        refine Sx.st_take hT rfl rfl rfl rfl (Sx.x_len_slice hT rfl rfl Try.underlying22 rfl) ?_
        clear hT; intro a hT
        refine Sx.st_take hT rfl rfl rfl rfl ((fun w => Sx.x_eq w hT rfl rfl rfl)) ?_
        clear hT; intro a hT
        refine Sx.st_take hT rfl rfl rfl rfl (Sx.x_pick_t hT rfl rfl rfl) ?_
        clear hT; intro a hT
        refine Sx.st_take hT rfl rfl rfl rfl (Sx.x_move hT rfl rfl) ?_
        clear hT; intro a hT
        refine Sx.Sl.two hT 59 rfl (fun hc12 hT => ?_) (fun hc12 hT => ?_)
        · try simp only [Sx.bq] at hc12
          refine Sx.st_take hT rfl rfl rfl rfl (Sx.x_move hT rfl rfl) ?_
          clear hT; intro a hT
          refine Sx.st_take hT rfl rfl rfl rfl (Sx.x_index (k := 0) hT rfl Try.underlying22 Try.ti36 (H.row 5 rfl).sv rfl rfl (by first | rfl | omega) (by omega)) ?_
          clear hT; intro a hT
          refine Sx.st_take hT rfl rfl rfl rfl (Sx.x_fieldAddr hT rfl Try.fa36_0 rfl) ?_
          clear hT; intro a hT
          refine Sx.st_held hT rfl rfl rfl rfl hH (fun w' h' => Sx.y_loadS hT rfl Try.underlying33 Try.ti33 rfl ((((Hu.heldR 5 rfl h' Sx.off_No).ssn rfl).cs En.len (show [(⟨⟨1, 1, 1⟩, ⟨5, 0, 1⟩, adx, cx, [f1]⟩ : En), (⟨⟨1, 1, 2⟩, ⟨7, 0, 1⟩, ady, cy, [f2, f3]⟩ : En)][0]? = some _ from rfl)).seg (i := 0) (k := 3) rfl) (by rfl)) ?_
          clear hT; intro a hT
          refine Sx.st_take hT rfl rfl rfl rfl (Sx.x_fieldAddr hT rfl Try.fa36_0 rfl) ?_
          clear hT; intro a hT
          refine Sx.st_held hT rfl rfl rfl rfl hH (fun w' h' => Sx.y_loadS hT rfl Try.underlying33 Try.ti33 rfl ((Hu.heldB 11 rfl h' Sx.off_No).seg (k := 3) rfl) (by rfl)) ?_
          clear hT; intro a hT
          refine Sx.st_take hT rfl rfl rfl rfl (Sx.x_eqS hT rfl (by kernel_rfl) (Try.eq33 _ _ _ _ _ _) rfl rfl rfl) ?_
          clear hT; intro a hT
          refine Sx.st_take hT rfl rfl rfl rfl (Sx.x_pick_t hT rfl rfl rfl) ?_
          clear hT; intro a hT
          refine Sx.st_take hT rfl rfl rfl rfl (Sx.x_move hT rfl rfl) ?_
          clear hT; intro a hT
          refine Sx.Sl.two hT 68 rfl (fun hc13 hT => ?_) (fun hc13 hT => ?_)
          · try simp only [Sx.bq] at hc13
            refine Sx.st_take hT rfl rfl rfl rfl (Sx.x_move hT rfl rfl) ?_
            clear hT; intro a hT
            refine Sx.st_take hT rfl rfl rfl rfl (Sx.x_len_slice hT rfl rfl Try.underlying43 rfl) ?_
            clear hT; intro a hT
            refine Sx.st_take hT rfl rfl rfl rfl ((fun w => Sx.x_eq w hT rfl rfl rfl)) ?_
            clear hT; intro a hT
            refine Sx.st_take hT rfl rfl rfl rfl (Sx.x_pick_t hT rfl rfl rfl) ?_
            clear hT; intro a hT
            refine Sx.st_take hT rfl rfl rfl rfl (Sx.x_move hT rfl rfl) ?_
            clear hT; intro a hT
            refine Sx.Sl.two hT 73 rfl (fun hc14 hT => ?_) (fun hc14 hT => ?_)
            · try simp only [Sx.bq] at hc14
              refine Sx.st_take hT rfl rfl rfl rfl (Sx.x_move hT rfl rfl) ?_
              clear hT; intro a hT
              refine Sx.st_take hT rfl rfl rfl rfl (Sx.x_index (k := 0) hT rfl Try.underlying43 Try.ti73 (H.row 4 rfl).sv rfl rfl (by first | rfl | omega) (by omega)) ?_
              clear hT; intro a hT
              refine Sx.st_take hT rfl rfl rfl rfl (Sx.x_fieldAddr hT rfl Try.fa73_0 rfl) ?_
              clear hT; intro a hT
              refine Sx.st_held hT rfl rfl rfl rfl hH (fun w' h' => Sx.x_load1 hT rfl Try.fl9 rfl (by first | exact (((Hu.heldR 4 rfl h' Sx.off_No).ssn rfl).cell (j := 0) Wt.len (show [f1][0]? = some _ from rfl) rfl) | exact (((Hu.heldR 3 rfl h' Sx.off_No).ssn rfl).cell (j := 0) Wt.len (show [f3][0]? = some _ from rfl) rfl))) ?_
              clear hT; intro a hT
              refine Sx.st_take hT rfl rfl rfl rfl ((fun w => Sx.x_streq w hT rfl rfl rfl)) ?_
              clear hT; intro a hT
              refine Sx.st_take hT rfl rfl rfl rfl (Sx.x_pick_t hT rfl rfl rfl) ?_
              clear hT; intro a hT
              refine Sx.st_take hT rfl rfl rfl rfl (Sx.x_move hT rfl rfl) ?_
              clear hT; intro a hT
              refine Sx.Sl.two hT 80 rfl (fun hc15 hT => ?_) (fun hc15 hT => ?_)
              · try simp only [Sx.bq] at hc15
                refine Sx.st_take hT rfl rfl rfl rfl (Sx.x_move hT rfl rfl) ?_
                clear hT; intro a hT
                refine Sx.st_take hT rfl rfl rfl rfl (Sx.x_len_slice hT rfl rfl Try.underlying43 rfl) ?_
                clear hT; intro a hT
                refine Sx.st_take hT rfl rfl rfl rfl ((fun w => Sx.x_eq w hT rfl rfl rfl)) ?_
                clear hT; intro a hT
                refine Sx.st_take hT rfl rfl rfl rfl (Sx.x_pick_t hT rfl rfl rfl) ?_
                clear hT; intro a hT
                refine Sx.st_take hT rfl rfl rfl rfl (Sx.x_move hT rfl rfl) ?_
                clear hT; intro a hT
                refine Sx.Sl.two hT 85 rfl (fun hc16 hT => ?_) (fun hc16 hT => ?_)
                · try simp only [Sx.bq] at hc16
                  refine Sx.st_take hT rfl rfl rfl rfl (Sx.x_move hT rfl rfl) ?_
                  clear hT; intro a hT
                  refine Sx.st_take hT rfl rfl rfl rfl (Sx.x_index (k := 0) hT rfl Try.underlying43 Try.ti73 (H.row 3 rfl).sv rfl rfl (by first | rfl | omega) (by omega)) ?_
                  clear hT; intro a hT
                  refine Sx.st_take hT rfl rfl rfl rfl (Sx.x_fieldAddr hT rfl Try.fa73_0 rfl) ?_
                  clear hT; intro a hT
                  refine Sx.st_held hT rfl rfl rfl rfl hH (fun w' h' => Sx.x_load1 hT rfl Try.fl9 rfl (by first | exact (((Hu.heldR 4 rfl h' Sx.off_No).ssn rfl).cell (j := 0) Wt.len (show [f1][0]? = some _ from rfl) rfl) | exact (((Hu.heldR 3 rfl h' Sx.off_No).ssn rfl).cell (j := 0) Wt.len (show [f3][0]? = some _ from rfl) rfl))) ?_
                  clear hT; intro a hT
                  refine Sx.st_take hT rfl rfl rfl rfl ((fun w => Sx.x_streq w hT rfl rfl rfl)) ?_
                  clear hT; intro a hT
                  refine Sx.st_take hT rfl rfl rfl rfl (Sx.x_pick_t hT rfl rfl rfl) ?_
                  clear hT; intro a hT
                  refine Sx.st_take hT rfl rfl rfl rfl (Sx.x_move hT rfl rfl) ?_
                  clear hT; intro a hT
                  refine Sx.Sl.two hT 92 rfl (fun hc17 hT => ?_) (fun hc17 hT => ?_)
                  · try simp only [Sx.bq] at hc17
                    refine Sx.st_take hT rfl rfl rfl rfl (Sx.x_move hT rfl rfl) ?_
                    clear hT; intro a hT
                    refine Sx.st_take hT rfl rfl rfl rfl (Sx.x_len_slice hT rfl rfl Try.underlying43 rfl) ?_
                    clear hT; intro a hT
                    refine Sx.st_take hT rfl rfl rfl rfl ((fun w => Sx.x_eq w hT rfl rfl rfl)) ?_
                    clear hT; intro a hT
                    refine Sx.st_take hT rfl rfl rfl rfl (Sx.x_pick_t hT rfl rfl rfl) ?_
                    clear hT; intro a hT
                    refine Sx.st_take hT rfl rfl rfl rfl (Sx.x_move hT rfl rfl) ?_
                    clear hT; intro a hT
                    refine Sx.Sl.two hT 97 rfl (fun hc18 hT => ?_) (fun hc18 hT => ?_)
                    · try simp only [Sx.bq] at hc18
                      refine Sx.st_take hT rfl rfl rfl rfl (Sx.x_move hT rfl rfl) ?_
                      clear hT; intro a hT
                      refine Sx.st_take hT rfl rfl rfl rfl ((fun w => Sx.x_eq w hT rfl rfl rfl)) ?_
                      clear hT; intro a hT
                      refine Sx.st_take hT rfl rfl rfl rfl (Sx.x_pick_t hT rfl rfl rfl) ?_
                      clear hT; intro a hT
                      refine Sx.st_take hT rfl rfl rfl rfl (Sx.x_move hT rfl rfl) ?_
                      clear hT; intro a hT
                      refine Sx.Sl.two hT 101 rfl (fun hc19 hT => ?_) (fun hc19 hT => ?_)
                      · try simp only [Sx.bq] at hc19
                        refine Sx.st_take hT rfl rfl rfl rfl (Sx.x_move hT rfl rfl) ?_
                        clear hT; intro a hT
                        refine Sx.st_take hT rfl rfl rfl rfl ((fun w => Sx.x_eq w hT rfl rfl rfl)) ?_
                        clear hT; intro a hT
                        refine Sx.st_take hT rfl rfl rfl rfl (Sx.x_pick_t hT rfl rfl rfl) ?_
                        clear hT; intro a hT
                        refine Sx.st_take hT rfl rfl rfl rfl (Sx.x_assign hT rfl rfl) ?_
                        clear hT; intro a hT
                        replace hT := hT.keep [0, 10, 9, 8, 7, 6, 5, 4, 3, 2, 1] rfl
                        clear Hu hH
                        refine Sx.ser_calm ?_
                        refine Sx.then_normal (hK10 _ _ ?_)
                        clear hK10
                        refine wp_ret ?_
                        refine Sx.done1 (fn := Try.f8) hT rfl (.tmp (hT.get 0 _ rfl)) ?_
                        exact ⟨ret_b (by decide +kernel), H.ext⟩
                      · exfalso
                        try simp only [Sx.bq] at hc19
                        first | (simp at hc19; done) | (simp at hc19; omega) | (revert hc19; decide +kernel)
                    · exfalso
                      try simp only [Sx.bq] at hc18
                      first | (simp at hc18; done) | (simp at hc18; omega) | (revert hc18; decide +kernel)
                  · exfalso
                    try simp only [Sx.bq] at hc17
                    first | (simp at hc17; done) | (simp at hc17; omega) | (revert hc17; decide +kernel)
                · exfalso
                  try simp only [Sx.bq] at hc16
                  first | (simp at hc16; done) | (simp at hc16; omega) | (revert hc16; decide +kernel)
              · exfalso
                try simp only [Sx.bq] at hc15
                first | (simp at hc15; done) | (simp at hc15; omega) | (revert hc15; decide +kernel)
            · exfalso
              try simp only [Sx.bq] at hc14
              first | (simp at hc14; done) | (simp at hc14; omega) | (revert hc14; decide +kernel)
          · exfalso
            try simp only [Sx.bq] at hc13
            first | (simp at hc13; done) | (simp at hc13; omega) | (revert hc13; decide +kernel)
        · exfalso
          try simp only [Sx.bq] at hc12
          first | (simp at hc12; done) | (simp at hc12; omega) | (revert hc12; decide +kernel)
      · exfalso
        try simp only [Sx.bq] at hc11
        first | (simp at hc11; done) | (simp at hc11; omega) | (revert hc11; decide +kernel)
    · clear hK4; intro hJK4
      refine Sx.wp_drawsT (fun u => Sx.Ext (Sx.No) u) (.node [(0, .take), (2, .take), (3, .held), (4, .take)] (.node [(1, .keep)] (.leaf [(5, .keep), (6, .take), (7, .keep), (8, .run)]) (.leaf [(7, .keep), (5, .keep), (6, .take), (8, .run)])) (.node [] (.node [(5, .keep)] (.leaf [(1, .keep), (6, .take), (7, .keep), (8, .run)]) (.leaf [(7, .keep), (1, .keep), (6, .take), (8, .run)])) (.node [(7, .keep)] (.leaf [(1, .keep), (5, .keep), (6, .take), (8, .run)]) (.leaf [(5, .keep), (1, .keep), (6, .take), (8, .run)])))) (by kernel_rfl) (by kernel_rfl) (fun u E _ => ?_)
      refine Sx.tser_node ?_
      replace H := H.pure E; clear E
      have hH : Sx.Ext (Sx.No) u u := Sx.Ext.refl _ _
      have Hu := H
      refine Sx.st_take hT rfl rfl rfl rfl (Sx.x_bld hT rfl Try.bld33 rfl rfl) ?_
      clear hT; intro a hT
      refine Sx.st_take hT rfl rfl rfl rfl (Sx.x_bld hT rfl Try.bld41 rfl rfl) ?_
      clear hT; intro a hT
      refine Sx.st_held hT rfl rfl rfl rfl hH (fun w' h' => Sx.y_loadS hT rfl Try.underlying39 Try.ti39 rfl ((Hu.heldB 2 rfl h' Sx.off_No).seg (k := 3) rfl) (by rfl)) ?_
      clear hT; intro a hT
      refine Sx.st_take hT rfl rfl rfl rfl (Sx.x_bld hT rfl Try.bld41 rfl rfl) ?_
      clear hT; intro a hT
      refine Sx.ser_forkT ?_ ?_
      · skip
        refine Sx.tser_node ?_
        refine Sx.st_callkeep hT rfl rfl rfl rfl rfl Try.can32 rfl (at_calls 7 _) ?_
        rintro _ w16 ⟨rfl, E⟩
        refine ⟨_, rfl, hH.step E, ?_⟩
        replace hH := hH.step E
        clear hT; intro a hT
        replace H := H.pure E; clear E
        refine Sx.ser_forkT ?_ ?_
        · skip
          refine Sx.tser_leaf ?_
          refine Sx.st_effkeep hT rfl rfl rfl rfl (Sx.x_bldS hT rfl Try.underlying34 Try.ti41 rfl rfl rfl rfl rfl rfl rfl _) ?_
          rintro _ w17 ⟨b5, rfl, N⟩
          have q_b5 : u.heap.size ≤ b5 := by have h8 := hH.size; have h9 := N.at_; omega
          refine ⟨hH.step N.ext, ?_⟩
          replace hH := hH.step N.ext
          clear hT; intro a hT
          replace H := H.new N; clear N
          refine Sx.st_take hT rfl rfl rfl rfl (Sx.x_bld hT rfl Try.bld36 rfl rfl) ?_
          clear hT; intro a hT
          refine Sx.st_effkeep hT rfl rfl rfl rfl (Sx.y_alloc hT rfl Try.ti36 rfl _) ?_
          rintro _ w18 ⟨b6, rfl, N⟩
          have q_b6 : u.heap.size ≤ b6 := by have h8 := hH.size; have h9 := N.at_; omega
          refine ⟨hH.step N.ext, ?_⟩
          replace hH := hH.step N.ext
          clear hT; intro a hT
          replace H := H.new N; clear N
          refine Sx.st_act hT rfl rfl rfl (Sx.y_storeS hT rfl Try.ti36 rfl rfl rfl rfl rfl (H.blk 0 rfl) rfl) ?_
          rintro w19 ⟨hb, E, _⟩
          replace H := H.setB 0 rfl hb E rfl; clear hb E
          replace hT := hT.keep [3, 2, 1, 0] rfl
          clear Hu hH
          refine Sx.ser_calm ?_
          exact Sx.then_normal (hJK4 (b5, b6) _ _ trivial (hT.keep [3, 2, 1, 0] rfl) (H.keep [1, 0, 2, 3, 4] rfl rfl))
        · skip
          refine Sx.tser_leaf ?_
          refine Sx.st_effkeep hT rfl rfl rfl rfl (Sx.y_alloc hT rfl Try.ti36 rfl _) ?_
          rintro _ w20 ⟨b7, rfl, N⟩
          have q_b7 : u.heap.size ≤ b7 := by have h8 := hH.size; have h9 := N.at_; omega
          refine ⟨hH.step N.ext, ?_⟩
          replace hH := hH.step N.ext
          clear hT; intro a hT
          replace H := H.new N; clear N
          refine Sx.st_effkeep hT rfl rfl rfl rfl (Sx.x_bldS hT rfl Try.underlying34 Try.ti41 rfl rfl rfl rfl rfl rfl rfl _) ?_
          rintro _ w21 ⟨b8, rfl, N⟩
          have q_b8 : u.heap.size ≤ b8 := by have h8 := hH.size; have h9 := N.at_; omega
          refine ⟨hH.step N.ext, ?_⟩
          replace hH := hH.step N.ext
          clear hT; intro a hT
          replace H := H.new N; clear N
          refine Sx.st_take hT rfl rfl rfl rfl (Sx.x_bld hT rfl Try.bld36 rfl rfl) ?_
          clear hT; intro a hT
          refine Sx.st_act hT rfl rfl rfl (Sx.y_storeS hT rfl Try.ti36 rfl rfl rfl rfl rfl (H.blk 1 rfl) rfl) ?_
          rintro w22 ⟨hb, E, _⟩
          replace H := H.setB 1 rfl hb E rfl; clear hb E
          replace hT := hT.keep [3, 2, 1, 0] rfl
          clear Hu hH
          refine Sx.ser_calm ?_
          exact Sx.then_normal (hJK4 (b8, b7) _ _ trivial (hT.keep [3, 2, 1, 0] rfl) (H.keep [0, 1, 2, 3, 4] rfl rfl))
      · skip
        refine Sx.tser_or ?_ ?_
        · skip
          refine Sx.tser_node ?_
          refine Sx.st_effkeep hT rfl rfl rfl rfl (Sx.x_bldS hT rfl Try.underlying34 Try.ti41 rfl rfl rfl rfl rfl rfl rfl _) ?_
          rintro _ w23 ⟨b9, rfl, N⟩
          have q_b9 : u.heap.size ≤ b9 := by have h8 := hH.size; have h9 := N.at_; omega
          refine ⟨hH.step N.ext, ?_⟩
          replace hH := hH.step N.ext
          clear hT; intro a hT
          replace H := H.new N; clear N
          refine Sx.ser_forkT ?_ ?_
          · skip
            refine Sx.tser_leaf ?_
            refine Sx.st_callkeep hT rfl rfl rfl rfl rfl Try.can32 rfl (at_calls 7 _) ?_
            rintro _ w24 ⟨rfl, E⟩
            refine ⟨_, rfl, hH.step E, ?_⟩
            replace hH := hH.step E
            clear hT; intro a hT
            replace H := H.pure E; clear E
            refine Sx.st_take hT rfl rfl rfl rfl (Sx.x_bld hT rfl Try.bld36 rfl rfl) ?_
            clear hT; intro a hT
            refine Sx.st_effkeep hT rfl rfl rfl rfl (Sx.y_alloc hT rfl Try.ti36 rfl _) ?_
            rintro _ w25 ⟨b10, rfl, N⟩
            have q_b10 : u.heap.size ≤ b10 := by have h8 := hH.size; have h9 := N.at_; omega
            refine ⟨hH.step N.ext, ?_⟩
            replace hH := hH.step N.ext
            clear hT; intro a hT
            replace H := H.new N; clear N
            refine Sx.st_act hT rfl rfl rfl (Sx.y_storeS hT rfl Try.ti36 rfl rfl rfl rfl rfl (H.blk 0 rfl) rfl) ?_
            rintro w26 ⟨hb, E, _⟩
            replace H := H.setB 0 rfl hb E rfl; clear hb E
            replace hT := hT.keep [3, 2, 1, 0] rfl
            clear Hu hH
            refine Sx.ser_calm ?_
            exact Sx.then_normal (hJK4 (b9, b10) _ _ trivial (hT.keep [3, 2, 1, 0] rfl) (H.keep [1, 0, 2, 3, 4] rfl rfl))
          · skip
            refine Sx.tser_leaf ?_
            refine Sx.st_effkeep hT rfl rfl rfl rfl (Sx.y_alloc hT rfl Try.ti36 rfl _) ?_
            rintro _ w27 ⟨b11, rfl, N⟩
            have q_b11 : u.heap.size ≤ b11 := by have h8 := hH.size; have h9 := N.at_; omega
            refine ⟨hH.step N.ext, ?_⟩
            replace hH := hH.step N.ext
            clear hT; intro a hT
            replace H := H.new N; clear N
            refine Sx.st_callkeep hT rfl rfl rfl rfl rfl Try.can32 rfl (at_calls 7 _) ?_
            rintro _ w28 ⟨rfl, E⟩
            refine ⟨_, rfl, hH.step E, ?_⟩
            replace hH := hH.step E
            clear hT; intro a hT
            replace H := H.pure E; clear E
            refine Sx.st_take hT rfl rfl rfl rfl (Sx.x_bld hT rfl Try.bld36 rfl rfl) ?_
            clear hT; intro a hT
            refine Sx.st_act hT rfl rfl rfl (Sx.y_storeS hT rfl Try.ti36 rfl rfl rfl rfl rfl (H.blk 0 rfl) rfl) ?_
            rintro w29 ⟨hb, E, _⟩
            replace H := H.setB 0 rfl hb E rfl; clear hb E
            replace hT := hT.keep [3, 2, 1, 0] rfl
            clear Hu hH
            refine Sx.ser_calm ?_
            exact Sx.then_normal (hJK4 (b9, b11) _ _ trivial (hT.keep [3, 2, 1, 0] rfl) (H.keep [1, 0, 2, 3, 4] rfl rfl))
        · skip
          refine Sx.tser_node ?_
          refine Sx.st_effkeep hT rfl rfl rfl rfl (Sx.y_alloc hT rfl Try.ti36 rfl _) ?_
          rintro _ w30 ⟨b12, rfl, N⟩
          have q_b12 : u.heap.size ≤ b12 := by have h8 := hH.size; have h9 := N.at_; omega
          refine ⟨hH.step N.ext, ?_⟩
          replace hH := hH.step N.ext
          clear hT; intro a hT
          replace H := H.new N; clear N
          refine Sx.ser_forkT ?_ ?_
          · skip
            refine Sx.tser_leaf ?_
            refine Sx.st_callkeep hT rfl rfl rfl rfl rfl Try.can32 rfl (at_calls 7 _) ?_
            rintro _ w31 ⟨rfl, E⟩
            refine ⟨_, rfl, hH.step E, ?_⟩
            replace hH := hH.step E
            clear hT; intro a hT
            replace H := H.pure E; clear E
            refine Sx.st_effkeep hT rfl rfl rfl rfl (Sx.x_bldS hT rfl Try.underlying34 Try.ti41 rfl rfl rfl rfl rfl rfl rfl _) ?_
            rintro _ w32 ⟨b13, rfl, N⟩
            have q_b13 : u.heap.size ≤ b13 := by have h8 := hH.size; have h9 := N.at_; omega
            refine ⟨hH.step N.ext, ?_⟩
            replace hH := hH.step N.ext
            clear hT; intro a hT
            replace H := H.new N; clear N
            refine Sx.st_take hT rfl rfl rfl rfl (Sx.x_bld hT rfl Try.bld36 rfl rfl) ?_
            clear hT; intro a hT
            refine Sx.st_act hT rfl rfl rfl (Sx.y_storeS hT rfl Try.ti36 rfl rfl rfl rfl rfl (H.blk 1 rfl) rfl) ?_
            rintro w33 ⟨hb, E, _⟩
            replace H := H.setB 1 rfl hb E rfl; clear hb E
            replace hT := hT.keep [3, 2, 1, 0] rfl
            clear Hu hH
            refine Sx.ser_calm ?_
            exact Sx.then_normal (hJK4 (b13, b12) _ _ trivial (hT.keep [3, 2, 1, 0] rfl) (H.keep [0, 1, 2, 3, 4] rfl rfl))
          · skip
            refine Sx.tser_leaf ?_
            refine Sx.st_effkeep hT rfl rfl rfl rfl (Sx.x_bldS hT rfl Try.underlying34 Try.ti41 rfl rfl rfl rfl rfl rfl rfl _) ?_
            rintro _ w34 ⟨b14, rfl, N⟩
            have q_b14 : u.heap.size ≤ b14 := by have h8 := hH.size; have h9 := N.at_; omega
            refine ⟨hH.step N.ext, ?_⟩
            replace hH := hH.step N.ext
            clear hT; intro a hT
            replace H := H.new N; clear N
            refine Sx.st_callkeep hT rfl rfl rfl rfl rfl Try.can32 rfl (at_calls 7 _) ?_
            rintro _ w35 ⟨rfl, E⟩
            refine ⟨_, rfl, hH.step E, ?_⟩
            replace hH := hH.step E
            clear hT; intro a hT
            replace H := H.pure E; clear E
            refine Sx.st_take hT rfl rfl rfl rfl (Sx.x_bld hT rfl Try.bld36 rfl rfl) ?_
            clear hT; intro a hT
            refine Sx.st_act hT rfl rfl rfl (Sx.y_storeS hT rfl Try.ti36 rfl rfl rfl rfl rfl (H.blk 1 rfl) rfl) ?_
            rintro w36 ⟨hb, E, _⟩
            replace H := H.setB 1 rfl hb E rfl; clear hb E
            replace hT := hT.keep [3, 2, 1, 0] rfl
            clear Hu hH
            refine Sx.ser_calm ?_
            exact Sx.then_normal (hJK4 (b14, b12) _ _ trivial (hT.keep [3, 2, 1, 0] rfl) (H.keep [0, 1, 2, 3, 4] rfl rfl))
  · clear hK3; intro hJK3
    refine Sx.wp_drawsT (fun u => Sx.Ext (Sx.No) u) (.node [(0, .take), (2, .held), (3, .take)] (.node [(1, .keep)] (.leaf [(4, .keep), (5, .take), (6, .keep), (7, .run)]) (.leaf [(6, .keep), (4, .keep), (5, .take), (7, .run)])) (.node [] (.node [(4, .keep)] (.leaf [(1, .keep), (5, .take), (6, .keep), (7, .run)]) (.leaf [(6, .keep), (1, .keep), (5, .take), (7, .run)])) (.node [(6, .keep)] (.leaf [(1, .keep), (4, .keep), (5, .take), (7, .run)]) (.leaf [(4, .keep), (1, .keep), (5, .take), (7, .run)])))) (by kernel_rfl) (by kernel_rfl) (fun u E _ => ?_)
    refine Sx.tser_node ?_
    replace H := H.pure E; clear E
    have hH : Sx.Ext (Sx.No) u u := Sx.Ext.refl _ _
    have Hu := H
    refine Sx.st_take hT rfl rfl rfl rfl (Sx.x_bld hT rfl Try.bld33 rfl rfl) ?_
    clear hT; intro a hT
    refine Sx.st_held hT rfl rfl rfl rfl hH (fun w' h' => Sx.y_loadS hT rfl Try.underlying39 Try.ti39 rfl ((Hu.heldB 0 rfl h' Sx.off_No).seg (k := 3) rfl) (by rfl)) ?_
    clear hT; intro a hT
    refine Sx.st_take hT rfl rfl rfl rfl (Sx.x_bld hT rfl Try.bld41 rfl rfl) ?_
    clear hT; intro a hT
    refine Sx.ser_forkT ?_ ?_
    · skip
      refine Sx.tser_node ?_
      refine Sx.st_callkeep hT rfl rfl rfl rfl rfl Try.can32 rfl (at_calls 5 _) ?_
      rintro _ w37 ⟨rfl, E⟩
      refine ⟨_, rfl, hH.step E, ?_⟩
      replace hH := hH.step E
      clear hT; intro a hT
      replace H := H.pure E; clear E
      refine Sx.ser_forkT ?_ ?_
      · skip
        refine Sx.tser_leaf ?_
        refine Sx.st_effkeep hT rfl rfl rfl rfl (Sx.y_slice1 hT rfl Try.underlying34 Try.ti41 rfl rfl rfl rfl rfl rfl _) ?_
        rintro _ w38 ⟨b15, rfl, N⟩
        have q_b15 : u.heap.size ≤ b15 := by have h8 := hH.size; have h9 := N.at_; omega
        refine ⟨hH.step N.ext, ?_⟩
        replace hH := hH.step N.ext
        clear hT; intro a hT
        replace H := H.new N; clear N
        refine Sx.st_take hT rfl rfl rfl rfl (Sx.x_bld hT rfl Try.bld36 rfl rfl) ?_
        clear hT; intro a hT
        refine Sx.st_effkeep hT rfl rfl rfl rfl (Sx.y_alloc hT rfl Try.ti36 rfl _) ?_
        rintro _ w39 ⟨b16, rfl, N⟩
        have q_b16 : u.heap.size ≤ b16 := by have h8 := hH.size; have h9 := N.at_; omega
        refine ⟨hH.step N.ext, ?_⟩
        replace hH := hH.step N.ext
        clear hT; intro a hT
        replace H := H.new N; clear N
        refine Sx.st_act hT rfl rfl rfl (Sx.y_storeS hT rfl Try.ti36 rfl rfl rfl rfl rfl (H.blk 0 rfl) rfl) ?_
        rintro w40 ⟨hb, E, _⟩
        replace H := H.setB 0 rfl hb E rfl; clear hb E
        replace hT := hT.keep [2, 1, 0] rfl
        clear Hu hH
        refine Sx.ser_calm ?_
        exact Sx.then_normal (hJK3 (b15, b16) _ _ trivial (hT.keep [2, 1, 0] rfl) (H.keep [1, 0, 2] rfl rfl))
      · skip
        refine Sx.tser_leaf ?_
        refine Sx.st_effkeep hT rfl rfl rfl rfl (Sx.y_alloc hT rfl Try.ti36 rfl _) ?_
        rintro _ w41 ⟨b17, rfl, N⟩
        have q_b17 : u.heap.size ≤ b17 := by have h8 := hH.size; have h9 := N.at_; omega
        refine ⟨hH.step N.ext, ?_⟩
        replace hH := hH.step N.ext
        clear hT; intro a hT
        replace H := H.new N; clear N
        refine Sx.st_effkeep hT rfl rfl rfl rfl (Sx.y_slice1 hT rfl Try.underlying34 Try.ti41 rfl rfl rfl rfl rfl rfl _) ?_
        rintro _ w42 ⟨b18, rfl, N⟩
        have q_b18 : u.heap.size ≤ b18 := by have h8 := hH.size; have h9 := N.at_; omega
        refine ⟨hH.step N.ext, ?_⟩
        replace hH := hH.step N.ext
        clear hT; intro a hT
        replace H := H.new N; clear N
        refine Sx.st_take hT rfl rfl rfl rfl (Sx.x_bld hT rfl Try.bld36 rfl rfl) ?_
        clear hT; intro a hT
        refine Sx.st_act hT rfl rfl rfl (Sx.y_storeS hT rfl Try.ti36 rfl rfl rfl rfl rfl (H.blk 1 rfl) rfl) ?_
        rintro w43 ⟨hb, E, _⟩
        replace H := H.setB 1 rfl hb E rfl; clear hb E
        replace hT := hT.keep [2, 1, 0] rfl
        clear Hu hH
        refine Sx.ser_calm ?_
        exact Sx.then_normal (hJK3 (b18, b17) _ _ trivial (hT.keep [2, 1, 0] rfl) (H.keep [0, 1, 2] rfl rfl))
    · skip
      refine Sx.tser_or ?_ ?_
      · skip
        refine Sx.tser_node ?_
        refine Sx.st_effkeep hT rfl rfl rfl rfl (Sx.y_slice1 hT rfl Try.underlying34 Try.ti41 rfl rfl rfl rfl rfl rfl _) ?_
        rintro _ w44 ⟨b19, rfl, N⟩
        have q_b19 : u.heap.size ≤ b19 := by have h8 := hH.size; have h9 := N.at_; omega
        refine ⟨hH.step N.ext, ?_⟩
        replace hH := hH.step N.ext
        clear hT; intro a hT
        replace H := H.new N; clear N
        refine Sx.ser_forkT ?_ ?_
        · skip
          refine Sx.tser_leaf ?_
          refine Sx.st_callkeep hT rfl rfl rfl rfl rfl Try.can32 rfl (at_calls 5 _) ?_
          rintro _ w45 ⟨rfl, E⟩
          refine ⟨_, rfl, hH.step E, ?_⟩
          replace hH := hH.step E
          clear hT; intro a hT
          replace H := H.pure E; clear E
          refine Sx.st_take hT rfl rfl rfl rfl (Sx.x_bld hT rfl Try.bld36 rfl rfl) ?_
          clear hT; intro a hT
          refine Sx.st_effkeep hT rfl rfl rfl rfl (Sx.y_alloc hT rfl Try.ti36 rfl _) ?_
          rintro _ w46 ⟨b20, rfl, N⟩
          have q_b20 : u.heap.size ≤ b20 := by have h8 := hH.size; have h9 := N.at_; omega
          refine ⟨hH.step N.ext, ?_⟩
          replace hH := hH.step N.ext
          clear hT; intro a hT
          replace H := H.new N; clear N
          refine Sx.st_act hT rfl rfl rfl (Sx.y_storeS hT rfl Try.ti36 rfl rfl rfl rfl rfl (H.blk 0 rfl) rfl) ?_
          rintro w47 ⟨hb, E, _⟩
          replace H := H.setB 0 rfl hb E rfl; clear hb E
          replace hT := hT.keep [2, 1, 0] rfl
          clear Hu hH
          refine Sx.ser_calm ?_
          exact Sx.then_normal (hJK3 (b19, b20) _ _ trivial (hT.keep [2, 1, 0] rfl) (H.keep [1, 0, 2] rfl rfl))
        · skip
          refine Sx.tser_leaf ?_
          refine Sx.st_effkeep hT rfl rfl rfl rfl (Sx.y_alloc hT rfl Try.ti36 rfl _) ?_
          rintro _ w48 ⟨b21, rfl, N⟩
          have q_b21 : u.heap.size ≤ b21 := by have h8 := hH.size; have h9 := N.at_; omega
          refine ⟨hH.step N.ext, ?_⟩
          replace hH := hH.step N.ext
          clear hT; intro a hT
          replace H := H.new N; clear N
          refine Sx.st_callkeep hT rfl rfl rfl rfl rfl Try.can32 rfl (at_calls 5 _) ?_
          rintro _ w49 ⟨rfl, E⟩
          refine ⟨_, rfl, hH.step E, ?_⟩
          replace hH := hH.step E
          clear hT; intro a hT
          replace H := H.pure E; clear E
          refine Sx.st_take hT rfl rfl rfl rfl (Sx.x_bld hT rfl Try.bld36 rfl rfl) ?_
          clear hT; intro a hT
          refine Sx.st_act hT rfl rfl rfl (Sx.y_storeS hT rfl Try.ti36 rfl rfl rfl rfl rfl (H.blk 0 rfl) rfl) ?_
          rintro w50 ⟨hb, E, _⟩
          replace H := H.setB 0 rfl hb E rfl; clear hb E
          replace hT := hT.keep [2, 1, 0] rfl
          clear Hu hH
          refine Sx.ser_calm ?_
          exact Sx.then_normal (hJK3 (b19, b21) _ _ trivial (hT.keep [2, 1, 0] rfl) (H.keep [1, 0, 2] rfl rfl))
      · skip
        refine Sx.tser_node ?_
        refine Sx.st_effkeep hT rfl rfl rfl rfl (Sx.y_alloc hT rfl Try.ti36 rfl _) ?_
        rintro _ w51 ⟨b22, rfl, N⟩
        have q_b22 : u.heap.size ≤ b22 := by have h8 := hH.size; have h9 := N.at_; omega
        refine ⟨hH.step N.ext, ?_⟩
        replace hH := hH.step N.ext
        clear hT; intro a hT
        replace H := H.new N; clear N
        refine Sx.ser_forkT ?_ ?_
        · skip
          refine Sx.tser_leaf ?_
          refine Sx.st_callkeep hT rfl rfl rfl rfl rfl Try.can32 rfl (at_calls 5 _) ?_
          rintro _ w52 ⟨rfl, E⟩
          refine ⟨_, rfl, hH.step E, ?_⟩
          replace hH := hH.step E
          clear hT; intro a hT
          replace H := H.pure E; clear E
          refine Sx.st_effkeep hT rfl rfl rfl rfl (Sx.y_slice1 hT rfl Try.underlying34 Try.ti41 rfl rfl rfl rfl rfl rfl _) ?_
          rintro _ w53 ⟨b23, rfl, N⟩
          have q_b23 : u.heap.size ≤ b23 := by have h8 := hH.size; have h9 := N.at_; omega
          refine ⟨hH.step N.ext, ?_⟩
          replace hH := hH.step N.ext
          clear hT; intro a hT
          replace H := H.new N; clear N
          refine Sx.st_take hT rfl rfl rfl rfl (Sx.x_bld hT rfl Try.bld36 rfl rfl) ?_
          clear hT; intro a hT
          refine Sx.st_act hT rfl rfl rfl (Sx.y_storeS hT rfl Try.ti36 rfl rfl rfl rfl rfl (H.blk 1 rfl) rfl) ?_
          rintro w54 ⟨hb, E, _⟩
          replace H := H.setB 1 rfl hb E rfl; clear hb E
          replace hT := hT.keep [2, 1, 0] rfl
          clear Hu hH
          refine Sx.ser_calm ?_
          exact Sx.then_normal (hJK3 (b23, b22) _ _ trivial (hT.keep [2, 1, 0] rfl) (H.keep [0, 1, 2] rfl rfl))
        · skip
          refine Sx.tser_leaf ?_
          refine Sx.st_effkeep hT rfl rfl rfl rfl (Sx.y_slice1 hT rfl Try.underlying34 Try.ti41 rfl rfl rfl rfl rfl rfl _) ?_
          rintro _ w55 ⟨b24, rfl, N⟩
          have q_b24 : u.heap.size ≤ b24 := by have h8 := hH.size; have h9 := N.at_; omega
          refine ⟨hH.step N.ext, ?_⟩
          replace hH := hH.step N.ext
          clear hT; intro a hT
          replace H := H.new N; clear N
          refine Sx.st_callkeep hT rfl rfl rfl rfl rfl Try.can32 rfl (at_calls 5 _) ?_
          rintro _ w56 ⟨rfl, E⟩
          refine ⟨_, rfl, hH.step E, ?_⟩
          replace hH := hH.step E
          clear hT; intro a hT
          replace H := H.pure E; clear E
          refine Sx.st_take hT rfl rfl rfl rfl (Sx.x_bld hT rfl Try.bld36 rfl rfl) ?_
          clear hT; intro a hT
          refine Sx.st_act hT rfl rfl rfl (Sx.y_storeS hT rfl Try.ti36 rfl rfl rfl rfl rfl (H.blk 1 rfl) rfl) ?_
          rintro w57 ⟨hb, E, _⟩
          replace H := H.setB 1 rfl hb E rfl; clear hb E
          replace hT := hT.keep [2, 1, 0] rfl
          clear Hu hH
          refine Sx.ser_calm ?_
          exact Sx.then_normal (hJK3 (b24, b22) _ _ trivial (hT.keep [2, 1, 0] rfl) (H.keep [0, 1, 2] rfl rfl))

end Go.Proofs.Ytpggijfpkgglmaa
