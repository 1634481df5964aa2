/- Walks: what the chapter fixes; are operations few. -/
import Derived.Test.YthhdoeflafakaaaS6
import Derived.Test.YthhdoeflafakaaaS7
set_option linter.unusedSimpArgs false
set_option linter.unusedVariables false
namespace Go.Proofs.Ythhdoeflafakaaa
open Sx
theorem Try.ti37 : Sx.TI Try.prog 37 (.agg #[.int .i64 0, .int .i64 0, .int .i64 0, .int .i64 0, .int .i64 0, .int .i64 0, .int .i64 0, .int .i64 0, .int .i64 0, .int .i64 0, .slice none 0 0, .int .i64 0, .int .i64 0, .int .i64 0]) 14 128 := .mk' (by kernel_rfl)
theorem Try.fa37_2 : Sx.FA Try.prog 37 2 2 := ⟨_, _, _, _, _, Try.underlying37, rfl, rfl, Try.ti35, by decide⟩
theorem Try.bld32 : Sx.Bld Try.prog 32 #[.int .i64 0, .int .i64 0, .int .i64 0] #[(0, 1), (1, 1), (2, 1)] := ⟨_, _, _, _, Try.ti32, rfl, Try.underlying32, fun w => by simp [Sx.placesOf, Sx.run_sizeOf Try.ti3]⟩
theorem Try.bld35 : Sx.Bld Try.prog 35 #[.int .i64 0, .int .i64 0, .int .i64 0, .int .i64 0, .int .i64 0, .int .i64 0, .int .i64 0, .int .i64 0, .slice none 0 0] #[(0, 1), (1, 1), (2, 3), (5, 3), (8, 1)] := ⟨_, _, _, _, Try.ti35, rfl, Try.underlying35, fun w => by simp [Sx.placesOf, Sx.run_sizeOf Try.ti28, Sx.run_sizeOf Try.ti3, Sx.run_sizeOf Try.ti32, Sx.run_sizeOf Try.ti33]⟩
theorem Try.bld50 : Sx.Bld Try.prog 50 #[.string .empty, .int .i64 0, .float .f64 0, .string .empty] #[(0, 1), (1, 3)] := ⟨_, _, _, _, Try.ti50, rfl, Try.underlying50, fun w => by simp [Sx.placesOf, Sx.run_sizeOf Try.ti48, Sx.run_sizeOf Try.ti9]⟩
theorem Try.can7 : Sx.Can Try.prog 7 := ⟨_, Try.func7, by kernel_rfl, rfl⟩
theorem Try.can8 : Sx.Can Try.prog 8 := ⟨_, Try.func8, by kernel_rfl, rfl⟩
set_option maxHeartbeats 1000000 in
theorem first_calls (w : World) : Calls Try.prog 7 #[] w fun e w' => e = .returned (.bool true) ∧ Ext No w w' := by
  show Calls Try.prog 7 ([] : List Value).toArray w _
  refine Sx.calls_into Try.func7 rfl Try.ntmps7 rfl fun a hT => ?_
  replace hT := hT.keep [] rfl
  have H : Sx.Hp w (Sx.No) w [] := Sx.Hp.start _ _
  refine wp_seq_k fun K1 hK1 => ?_
  -- region 0 (law.go:15)
  refine Sx.wp_text [(0, .take)] rfl ?_
  refine Sx.st_take hT rfl rfl rfl rfl (Sx.x_assign hT rfl rfl) ?_
  clear hT; intro a hT
  replace hT := hT.keep [0] rfl
  refine Sx.ser_nil ?_
  refine Sx.then_normal (hK1 _ _ ?_)
  clear hK1
  refine wp_seq_k fun K2 hK2 => ?_
  -- region 1 (law.go:16)
  refine Sx.wp_text [(0, .run), (1, .take)] rfl ?_
  refine Sx.st_call hT rfl rfl rfl rfl rfl Try.can9 rfl (SNew_calls _) ?_
  rintro _ w1 ⟨p, rfl, K⟩
  refine ⟨_, rfl, ?_⟩
  clear hT; intro a hT
  replace H := H.more K rfl; clear K
  refine Sx.st_take hT rfl rfl rfl rfl (Sx.x_assign hT rfl rfl) ?_
  clear hT; intro a hT
  replace hT := hT.keep [1, 0] rfl
  refine Sx.ser_nil ?_
  refine Sx.then_normal (hK2 _ _ ?_)
  clear hK2
  refine wp_seq_k fun K3 hK3 => ?_
  refine wp_seq_k fun K4 hK4 => ?_
  -- region 2 (law.go:17)
  refine Sx.wp_text [(0, .take), (1, .take)] rfl ?_
  refine Sx.st_take hT rfl rfl rfl rfl (Sx.x_move hT rfl rfl) ?_
  clear hT; intro a hT
  refine Sx.st_take hT rfl rfl rfl rfl (Sx.x_eqnil_some hT rfl Try.underlying25 rfl rfl) ?_
  clear hT; intro a hT
  replace hT := hT.keep [11, 1, 0] rfl
  refine Sx.ser_nil ?_
  refine Sx.then_normal (hK4 _ _ ?_)
  clear hK4
  refine Sx.wp_if hT rfl (fun h => by cases h) (fun _ => ?_)
  refine wp_skip ?_
  refine Sx.then_normal (hK3 _ _ ?_)
  clear hK3
  refine wp_seq_k fun K5 hK5 => ?_
  -- region 4 (law.go:20)
  refine Sx.wp_text [(0, .take), (1, .run), (2, .run)] rfl ?_
  refine Sx.st_take hT rfl rfl rfl rfl (Sx.x_bld hT rfl Try.bld32 rfl rfl) ?_
  clear hT; intro a hT
  refine Sx.st_eff hT rfl rfl rfl rfl (Sx.y_alloc hT rfl Try.ti32 rfl _) ?_
  clear hT; rintro _ w2 ⟨b1, rfl, N⟩ a hT
  replace H := H.new N; clear N
  refine Sx.st_act hT rfl rfl rfl (Sx.y_storeS hT rfl Try.ti32 rfl rfl rfl rfl rfl (H.blk 0 rfl) rfl) ?_
  rintro w3 ⟨hb, E, _⟩
  replace H := H.setB 0 rfl hb E rfl; clear hb E
  replace hT := hT.keep [2, 11, 1, 0] rfl
  refine Sx.ser_nil ?_
  refine Sx.then_normal (hK5 _ _ ?_)
  clear hK5
  refine wp_seq_k fun K6 hK6 => ?_
  -- region 5 (law.go:21)
  refine Sx.wp_text [(0, .take), (1, .run), (2, .run)] rfl ?_
  refine Sx.st_take hT rfl rfl rfl rfl (Sx.x_bld hT rfl Try.bld28 rfl rfl) ?_
  clear hT; intro a hT
  refine Sx.st_eff hT rfl rfl rfl rfl (Sx.y_alloc hT rfl Try.ti28 rfl _) ?_
  clear hT; rintro _ w4 ⟨b2, rfl, N⟩ a hT
  replace H := H.new N; clear N
  refine Sx.st_act hT rfl rfl rfl (Sx.y_storeS hT rfl Try.ti28 rfl rfl rfl rfl rfl (H.blk 0 rfl) rfl) ?_
  rintro w5 ⟨hb, E, _⟩
  replace H := H.setB 0 rfl hb E rfl; clear hb E
  replace hT := hT.keep [3, 2, 11, 1, 0] rfl
  refine Sx.ser_nil ?_
  refine Sx.then_normal (hK6 _ _ ?_)
  clear hK6
  refine wp_seq_k fun K7 hK7 => ?_
  -- region 6 (law.go:22)
  refine Sx.wp_text [(0, .take), (1, .run), (2, .run), (3, .take), (4, .run), (5, .take), (6, .run), (7, .take)] rfl ?_
  refine Sx.st_take hT rfl rfl rfl rfl (Sx.x_move hT rfl rfl) ?_
  clear hT; intro a hT
  refine Sx.st_run hT rfl rfl rfl rfl (Sx.y_loadS hT rfl Try.underlying32 Try.ti32 rfl ((H.blk 1 rfl).seg (k := 3) rfl) (by rfl)) ?_
  clear hT; intro a hT
  refine Sx.st_run hT rfl rfl rfl rfl (Sx.y_loadS hT rfl Try.underlying28 Try.ti28 rfl ((H.blk 0 rfl).seg (k := 3) rfl) (by rfl)) ?_
  clear hT; intro a hT
  refine Sx.st_take hT rfl rfl rfl rfl (Sx.x_bld hT rfl Try.bld50 rfl rfl) ?_
  clear hT; intro a hT
  refine Sx.st_eff hT rfl rfl rfl rfl (Sx.y_slice1 hT rfl Try.underlying33 Try.ti50 rfl rfl rfl rfl rfl rfl _) ?_
  clear hT; rintro _ w6 ⟨b3, rfl, N⟩ a hT
  replace H := H.new N; clear N
  refine Sx.st_take hT rfl rfl rfl rfl (Sx.x_bld hT rfl Try.bld35 rfl rfl) ?_
  clear hT; intro a hT
  refine Sx.st_call hT rfl rfl rfl rfl rfl Try.can11 rfl (Add_calls (⟨1, 1, ⟨1, 1, 1⟩, ⟨5, 0, 1⟩, some ⟨b3, 0, none⟩, 1, [⟨[97], vz⟩]⟩ : Fr) (H.pre [3, 4, 5] rfl rfl) ((H.lend 0 rfl [3, 4, 5] rfl rfl).mono fun u h => Blk.svn (m := 1) (sz := 4) h rfl) (fun h => by cases h) (show (1 : Nat) ≤ 1000000 by decide) held_nil (by decide)) ?_
  rintro _ w7 ⟨ad11, c11, L1, rfl, K, hp1⟩
  refine ⟨_, rfl, ?_⟩
  clear hT; intro a hT
  replace H := H.back [3, 4, 5] [0, 1, 2] rfl rfl rfl K rfl; clear K
  rw [show addE (List.map Fr.p ([] : List Fr)) (Fr.p (⟨1, 1, ⟨1, 1, 1⟩, ⟨5, 0, 1⟩, some ⟨b3, 0, none⟩, 1, [⟨[97], vz⟩]⟩ : Fr)) = 0 from by exact f1.1] at hT
  replace hp1 : L1.map Fr.p = [P1] := by rw [hp1]; exact f1.2
  have hh1 : Held (L1.map Fr.p) := by rw [hp1, ← f1.2]; exact held_add held_nil _
  refine Sx.st_take hT rfl rfl rfl rfl (Sx.x_assign hT rfl rfl) ?_
  clear hT; intro a hT
  replace hT := hT.keep [4, 3, 2, 11, 1, 0] rfl
  refine Sx.ser_nil ?_
  refine Sx.then_normal (hK7 _ _ ?_)
  clear hK7
  refine wp_seq_k fun K8 hK8 => ?_
  -- region 7 (law.go:23)
  refine Sx.wp_text [(0, .take), (1, .run), (2, .run), (3, .take), (4, .run), (5, .take), (6, .run), (7, .take)] rfl ?_
  refine Sx.st_take hT rfl rfl rfl rfl (Sx.x_move hT rfl rfl) ?_
  clear hT; intro a hT
  refine Sx.st_run hT rfl rfl rfl rfl (Sx.y_loadS hT rfl Try.underlying32 Try.ti32 rfl ((H.blk 5 rfl).seg (k := 3) rfl) (by rfl)) ?_
  clear hT; intro a hT
  refine Sx.st_run hT rfl rfl rfl rfl (Sx.y_loadS hT rfl Try.underlying28 Try.ti28 rfl ((H.blk 4 rfl).seg (k := 3) rfl) (by rfl)) ?_
  clear hT; intro a hT
  refine Sx.st_take hT rfl rfl rfl rfl (Sx.x_bld hT rfl Try.bld50 rfl rfl) ?_
  clear hT; intro a hT
  refine Sx.st_eff hT rfl rfl rfl rfl (Sx.y_slice1 hT rfl Try.underlying33 Try.ti50 rfl rfl rfl rfl rfl rfl _) ?_
  clear hT; rintro _ w8 ⟨b4, rfl, N⟩ a hT
  replace H := H.new N; clear N
  refine Sx.st_take hT rfl rfl rfl rfl (Sx.x_bld hT rfl Try.bld35 rfl rfl) ?_
  clear hT; intro a hT
  refine Sx.st_call hT rfl rfl rfl rfl rfl Try.can11 rfl (Add_calls (⟨2, 1, ⟨1, 1, 1⟩, ⟨5, 0, 1⟩, some ⟨b4, 0, none⟩, 1, [⟨[98], vz⟩]⟩ : Fr) (H.pre [1, 2, 3] rfl rfl) ((H.lend 0 rfl [1, 2, 3] rfl rfl).mono fun u h => Blk.svn (m := 1) (sz := 4) h rfl) (fun h => by cases h) (show (1 : Nat) ≤ 1000000 by decide) hh1 (by have := congrArg List.length hp1; simp at this; omega)) ?_
  rintro _ w9 ⟨ad12, c12, L2, rfl, K, hp2⟩
  refine ⟨_, rfl, ?_⟩
  clear hT; intro a hT
  replace H := H.back [1, 2, 3] [0, 4, 5, 6] rfl rfl rfl K rfl; clear K
  rw [show addE (List.map Fr.p L1) (Fr.p (⟨2, 1, ⟨1, 1, 1⟩, ⟨5, 0, 1⟩, some ⟨b4, 0, none⟩, 1, [⟨[98], vz⟩]⟩ : Fr)) = 0 from by rw [hp1]; exact f2.1] at hT
  replace hp2 : L2.map Fr.p = [P1, P2] := by rw [hp2]; rw [hp1]; exact f2.2
  have hh2 : Held (L2.map Fr.p) := by rw [hp2, ← f2.2]; exact held_add (by rw [← hp1]; exact hh1) _
  refine Sx.st_take hT rfl rfl rfl rfl (Sx.x_assign hT rfl rfl) ?_
  clear hT; intro a hT
  replace hT := hT.keep [5, 4, 3, 2, 11, 1, 0] rfl
  refine Sx.ser_nil ?_
  refine Sx.then_normal (hK8 _ _ ?_)
  clear hK8
  refine wp_seq_k fun K9 hK9 => ?_
  -- region 8 (law.go:24)
  refine Sx.wp_text [(0, .take), (1, .run), (2, .run), (3, .take), (4, .run), (5, .take), (6, .run), (7, .take)] rfl ?_
  refine Sx.st_take hT rfl rfl rfl rfl (Sx.x_move hT rfl rfl) ?_
  clear hT; intro a hT
  refine Sx.st_run hT rfl rfl rfl rfl (Sx.y_loadS hT rfl Try.underlying32 Try.ti32 rfl ((H.blk 6 rfl).seg (k := 3) rfl) (by rfl)) ?_
  clear hT; intro a hT
  refine Sx.st_run hT rfl rfl rfl rfl (Sx.y_loadS hT rfl Try.underlying28 Try.ti28 rfl ((H.blk 5 rfl).seg (k := 3) rfl) (by rfl)) ?_
  clear hT; intro a hT
  refine Sx.st_take hT rfl rfl rfl rfl (Sx.x_bld hT rfl Try.bld50 rfl rfl) ?_
  clear hT; intro a hT
  refine Sx.st_eff hT rfl rfl rfl rfl (Sx.y_slice1 hT rfl Try.underlying33 Try.ti50 rfl rfl rfl rfl rfl rfl _) ?_
  clear hT; rintro _ w10 ⟨b5, rfl, N⟩ a hT
  replace H := H.new N; clear N
  refine Sx.st_take hT rfl rfl rfl rfl (Sx.x_bld hT rfl Try.bld35 rfl rfl) ?_
  clear hT; intro a hT
  refine Sx.st_call hT rfl rfl rfl rfl rfl Try.can11 rfl (Add_calls (⟨3, 1, ⟨1, 1, 1⟩, ⟨5, 0, 1⟩, some ⟨b5, 0, none⟩, 1, [⟨[97], vz⟩]⟩ : Fr) (H.pre [1, 2, 3] rfl rfl) ((H.lend 0 rfl [1, 2, 3] rfl rfl).mono fun u h => Blk.svn (m := 1) (sz := 4) h rfl) (fun h => by cases h) (show (1 : Nat) ≤ 1000000 by decide) hh2 (by have := congrArg List.length hp2; simp at this; omega)) ?_
  rintro _ w11 ⟨ad13, c13, L3, rfl, K, hp3⟩
  refine ⟨_, rfl, ?_⟩
  clear hT; intro a hT
  replace H := H.back [1, 2, 3] [0, 4, 5, 6, 7] rfl rfl rfl K rfl; clear K
  rw [show addE (List.map Fr.p L2) (Fr.p (⟨3, 1, ⟨1, 1, 1⟩, ⟨5, 0, 1⟩, some ⟨b5, 0, none⟩, 1, [⟨[97], vz⟩]⟩ : Fr)) = 18 from by rw [hp2]; exact f3.1] at hT
  replace hp3 : L3.map Fr.p = [P1, P2] := by rw [hp3]; rw [hp2]; exact f3.2
  have hh3 : Held (L3.map Fr.p) := by rw [hp3, ← f3.2]; exact held_add (by rw [← hp2]; exact hh2) _
  refine Sx.st_take hT rfl rfl rfl rfl (Sx.x_assign hT rfl rfl) ?_
  clear hT; intro a hT
  replace hT := hT.keep [6, 5, 4, 3, 2, 11, 1, 0] rfl
  refine Sx.ser_nil ?_
  refine Sx.then_normal (hK9 _ _ ?_)
  clear hK9
  refine wp_seq_k fun K10 hK10 => ?_
  -- region 9 (law.go:25)
  refine Sx.wp_text [(0, .take), (1, .take), (2, .run), (3, .take), (4, .take)] rfl ?_
  refine Sx.st_take hT rfl rfl rfl rfl (Sx.x_move hT rfl rfl) ?_
  clear hT; intro a hT
  refine Sx.st_take hT rfl rfl rfl rfl (Sx.x_bld hT rfl Try.bld28 rfl rfl) ?_
  clear hT; intro a hT
  refine Sx.st_call hT rfl rfl rfl rfl rfl Try.can13 rfl (Upto_calls (⟨4, 0, 0⟩ : Stp) (H.pre [0, 1, 2] rfl rfl) hh3 (by have := congrArg List.length hp3; simp at this; omega)) ?_
  rintro _ w12 ⟨ad14, c14, E1, ade1, ce1, L4, rfl, K, hE1, hp4⟩
  refine ⟨_, rfl, ?_⟩
  clear hT; intro a hT
  replace H := H.back [0, 1, 2] [3, 4, 5, 6, 7] rfl rfl rfl K rfl; clear K
  rw [hp3] at hE1 hp4
  replace hp4 := hp4.trans f4.2
  have hh4 : Held (L4.map Fr.p) := by rw [hp4, ← hp3]; exact hh3
  have hE1l : E1.length = 0 := by have := congrArg List.length (hE1.trans f4.1); simpa using this
  refine Sx.st_take hT rfl rfl rfl rfl (Sx.x_len_slice hT rfl rfl Try.underlying30 rfl) ?_
  clear hT; intro a hT
  refine Sx.st_take hT rfl rfl rfl rfl (Sx.x_assign hT rfl rfl) ?_
  clear hT; intro a hT
  replace hT := hT.keep [7, 6, 5, 4, 3, 2, 11, 1, 0] rfl
  refine Sx.ser_nil ?_
  refine Sx.then_normal (hK10 _ _ ?_)
  clear hK10
  refine wp_seq_k fun K11 hK11 => ?_
  -- region 10 (law.go:26)
  refine Sx.wp_text [(0, .take), (1, .run), (2, .run), (3, .take)] rfl ?_
  refine Sx.st_take hT rfl rfl rfl rfl (Sx.x_move hT rfl rfl) ?_
  clear hT; intro a hT
  refine Sx.st_run hT rfl rfl rfl rfl (Sx.y_loadS hT rfl Try.underlying28 Try.ti28 rfl ((H.blk 8 rfl).seg (k := 3) rfl) (by rfl)) ?_
  clear hT; intro a hT
  refine Sx.st_call hT rfl rfl rfl rfl rfl Try.can13 rfl (Upto_calls (⟨5, 0, 1⟩ : Stp) (H.pre [0, 1, 2] rfl rfl) hh4 (by have := congrArg List.length hp4; simp at this; omega)) ?_
  rintro _ w13 ⟨ad15, c15, E2, ade2, ce2, L5, rfl, K, hE2, hp5⟩
  refine ⟨_, rfl, ?_⟩
  clear hT; intro a hT
  replace H := H.back [0, 1, 2] [3, 4, 5, 6, 7, 8, 9] rfl rfl rfl K rfl; clear K
  rw [hp4] at hE2 hp5
  replace hp5 := hp5.trans f5.2
  obtain ⟨e2, rfl, hep⟩ := one_of (hE2.trans f5.1)
  have he2 : e2.ws = [⟨[97], vz⟩, ⟨[98], vz⟩] := congrArg Ep.ws hep
  have he2l : e2.ws.length = 2 := by rw [he2]; rfl
  have hL5 : L5.length = 0 := by have := congrArg List.length hp5; simpa using this
  refine Sx.st_take hT rfl rfl rfl rfl (Sx.x_assign hT rfl rfl) ?_
  clear hT; intro a hT
  replace hT := hT.keep [8, 7, 6, 5, 4, 3, 2, 11, 1, 0] rfl
  refine Sx.ser_nil ?_
  refine Sx.then_normal (hK11 _ _ ?_)
  clear hK11
  refine wp_seq_k fun K12 hK12 => ?_
  -- region 11 (law.go:27)
  refine Sx.wp_text [(0, .take), (1, .take), (2, .take), (3, .take), (4, .take), (5, .take), (6, .take), (7, .take), (8, .take), (9, .take), (10, .take), (11, .take), (12, .take), (13, .take), (14, .take), (15, .take), (16, .take), (17, .take), (18, .take), (19, .take), (20, .take), (21, .take), (22, .take), (23, .run), (24, .take), (25, .take), (26, .take), (27, .take), (28, .take), (29, .take), (30, .take), (31, .run), (32, .take), (33, .take), (34, .run), (35, .take), (36, .take), (37, .take), (38, .take), (39, .run), (40, .take), (41, .take), (42, .take)] rfl ?_
  refine Sx.st_take hT rfl rfl rfl rfl (Sx.x_move hT rfl rfl) ?_
  clear hT; intro a hT
  refine Sx.st_take hT rfl rfl rfl rfl ((fun w => Sx.x_eq w hT rfl rfl rfl)) ?_
  clear hT; intro a hT
  refine Sx.st_take hT rfl rfl rfl rfl (Sx.x_move hT rfl rfl) ?_
  clear hT; intro a hT
  -- guard (11, 2)
  refine Sx.Sl.two hT 44 rfl (fun hc13 hT => ?_) (fun hc13 hT => ?_)
  · try simp only [decide_eq_true_eq, decide_eq_false_iff_not, Bool.not_eq_true', Bool.not_eq_false', Bool.not_eq_true, Bool.not_eq_false, Bool.and_eq_true, Bool.or_eq_false_iff, beq_iff_eq, bne_iff_ne, Int.not_lt, Int.not_le, ne_eq] at hc13
    refine Sx.st_take hT rfl rfl rfl rfl (Sx.x_move hT rfl rfl) ?_
    clear hT; intro a hT
    refine Sx.st_take hT rfl rfl rfl rfl ((fun w => Sx.x_eq w hT rfl rfl rfl)) ?_
    clear hT; intro a hT
    refine Sx.st_take hT rfl rfl rfl rfl (Sx.x_pick_t hT rfl rfl rfl) ?_
    clear hT; intro a hT
    refine Sx.st_take hT rfl rfl rfl rfl (Sx.x_move hT rfl rfl) ?_
    clear hT; intro a hT
    -- guard (11, 6)
    refine Sx.Sl.two hT 48 rfl (fun hc14 hT => ?_) (fun hc14 hT => ?_)
    · try simp only [decide_eq_true_eq, decide_eq_false_iff_not, Bool.not_eq_true', Bool.not_eq_false', Bool.not_eq_true, Bool.not_eq_false, Bool.and_eq_true, Bool.or_eq_false_iff, beq_iff_eq, bne_iff_ne, Int.not_lt, Int.not_le, ne_eq] at hc14
      refine Sx.st_take hT rfl rfl rfl rfl (Sx.x_move hT rfl rfl) ?_
      clear hT; intro a hT
      refine Sx.st_take hT rfl rfl rfl rfl ((fun w => Sx.x_eq w hT rfl rfl rfl)) ?_
      clear hT; intro a hT
      refine Sx.st_take hT rfl rfl rfl rfl (Sx.x_pick_t hT rfl rfl rfl) ?_
      clear hT; intro a hT
      refine Sx.st_take hT rfl rfl rfl rfl (Sx.x_move hT rfl rfl) ?_
      clear hT; intro a hT
      -- guard (11, 10)
      refine Sx.Sl.two hT 52 rfl (fun hc15 hT => ?_) (fun hc15 hT => ?_)
      · try simp only [decide_eq_true_eq, decide_eq_false_iff_not, Bool.not_eq_true', Bool.not_eq_false', Bool.not_eq_true, Bool.not_eq_false, Bool.and_eq_true, Bool.or_eq_false_iff, beq_iff_eq, bne_iff_ne, Int.not_lt, Int.not_le, ne_eq] at hc15
        refine Sx.st_take hT rfl rfl rfl rfl (Sx.x_move hT rfl rfl) ?_
        clear hT; intro a hT
        refine Sx.st_take hT rfl rfl rfl rfl ((fun w => Sx.x_eq w hT rfl rfl rfl)) ?_
        clear hT; intro a hT
        refine Sx.st_take hT rfl rfl rfl rfl (Sx.x_pick_t hT rfl rfl rfl) ?_
        clear hT; intro a hT
        refine Sx.st_take hT rfl rfl rfl rfl (Sx.x_move hT rfl rfl) ?_
        clear hT; intro a hT
        -- guard (11, 14)
        refine Sx.Sl.two hT 56 rfl (fun hc16 hT => ?_) (fun hc16 hT => ?_)
        · try simp only [decide_eq_true_eq, decide_eq_false_iff_not, Bool.not_eq_true', Bool.not_eq_false', Bool.not_eq_true, Bool.not_eq_false, Bool.and_eq_true, Bool.or_eq_false_iff, beq_iff_eq, bne_iff_ne, Int.not_lt, Int.not_le, ne_eq] at hc16
          refine Sx.st_take hT rfl rfl rfl rfl (Sx.x_move hT rfl rfl) ?_
          clear hT; intro a hT
          refine Sx.st_take hT rfl rfl rfl rfl (Sx.x_len_slice hT rfl rfl Try.underlying30 rfl) ?_
          clear hT; intro a hT
          refine Sx.st_take hT rfl rfl rfl rfl ((fun w => Sx.x_eq w hT rfl rfl rfl)) ?_
          clear hT; intro a hT
          refine Sx.st_take hT rfl rfl rfl rfl (Sx.x_pick_t hT rfl rfl rfl) ?_
          clear hT; intro a hT
          refine Sx.st_take hT rfl rfl rfl rfl (Sx.x_move hT rfl rfl) ?_
          clear hT; intro a hT
          -- guard (11, 19)
          refine Sx.Sl.two hT 61 rfl (fun hc17 hT => ?_) (fun hc17 hT => ?_)
          · try simp only [decide_eq_true_eq, decide_eq_false_iff_not, Bool.not_eq_true', Bool.not_eq_false', Bool.not_eq_true, Bool.not_eq_false, Bool.and_eq_true, Bool.or_eq_false_iff, beq_iff_eq, bne_iff_ne, Int.not_lt, Int.not_le, ne_eq] at hc17
            refine Sx.st_take hT rfl rfl rfl rfl (Sx.x_move hT rfl rfl) ?_
            clear hT; intro a hT
            refine Sx.st_take hT rfl rfl rfl rfl (Sx.x_index (k := 0) hT rfl Try.underlying30 Try.ti44 (H.row 3 rfl).sv rfl rfl (by first | rfl | omega) (by omega)) ?_
            clear hT; intro a hT
            refine Sx.st_take hT rfl rfl rfl rfl (Sx.x_fieldAddr hT rfl Try.fa44_2 rfl) ?_
            clear hT; intro a hT
            refine Sx.st_run hT rfl rfl rfl rfl (Sx.x_load1 hT rfl Try.fl33 rfl (((H.row 3 rfl).ssn rfl).cell (j := 6) En.len (show [e2][0]? = some e2 from rfl) rfl)) ?_
            clear hT; intro a hT
            refine Sx.st_take hT rfl rfl rfl rfl (Sx.x_len_slice hT rfl rfl Try.underlying33 rfl) ?_
            clear hT; intro a hT
            refine Sx.st_take hT rfl rfl rfl rfl ((fun w => Sx.x_eq w hT rfl rfl rfl)) ?_
            clear hT; intro a hT
            refine Sx.st_take hT rfl rfl rfl rfl (Sx.x_pick_t hT rfl rfl rfl) ?_
            clear hT; intro a hT
            refine Sx.st_take hT rfl rfl rfl rfl (Sx.x_move hT rfl rfl) ?_
            clear hT; intro a hT
            -- guard (11, 27)
            refine Sx.Sl.two hT 69 rfl (fun hc18 hT => ?_) (fun hc18 hT => ?_)
            · try simp only [decide_eq_true_eq, decide_eq_false_iff_not, Bool.not_eq_true', Bool.not_eq_false', Bool.not_eq_true, Bool.not_eq_false, Bool.and_eq_true, Bool.or_eq_false_iff, beq_iff_eq, bne_iff_ne, Int.not_lt, Int.not_le, ne_eq] at hc18
              refine Sx.st_take hT rfl rfl rfl rfl (Sx.x_move hT rfl rfl) ?_
              clear hT; intro a hT
              refine Sx.st_take hT rfl rfl rfl rfl (Sx.x_index (k := 0) hT rfl Try.underlying30 Try.ti44 (H.row 3 rfl).sv rfl rfl (by first | rfl | omega) (by omega)) ?_
              clear hT; intro a hT
              refine Sx.st_take hT rfl rfl rfl rfl (Sx.x_fieldAddr hT rfl Try.fa44_2 rfl) ?_
              clear hT; intro a hT
              refine Sx.st_run hT rfl rfl rfl rfl (Sx.x_load1 hT rfl Try.fl33 rfl (((H.row 3 rfl).ssn rfl).cell (j := 6) En.len (show [e2][0]? = some e2 from rfl) rfl)) ?_
              clear hT; intro a hT
              refine Sx.st_take hT rfl rfl rfl rfl (Sx.x_index (k := 1) hT rfl Try.underlying33 Try.ti50 (Row.ssn (xs := e2.ws) (enc := Wt.cells) ((H.fam 4 rfl).row e2 (by simp)) rfl).sv rfl rfl (by first | rfl | omega) (by omega)) ?_
              clear hT; intro a hT
              refine Sx.st_take hT rfl rfl rfl rfl (Sx.x_fieldAddr hT rfl Try.fa50_0 rfl) ?_
              clear hT; intro a hT
              refine Sx.st_run hT rfl rfl rfl rfl (Sx.x_load1 hT rfl Try.fl9 rfl ((Row.ssn (xs := e2.ws) (enc := Wt.cells) ((H.fam 4 rfl).row e2 (by simp)) rfl).cell (j := 0) Wt.len (show e2.ws[1]? = some ⟨[98], vz⟩ by rw [he2]; rfl) rfl)) ?_
              clear hT; intro a hT
              refine Sx.st_take hT rfl rfl rfl rfl ((fun w => Sx.x_streq w hT rfl rfl rfl)) ?_
              clear hT; intro a hT
              refine Sx.st_take hT rfl rfl rfl rfl (Sx.x_pick_t hT rfl rfl rfl) ?_
              clear hT; intro a hT
              refine Sx.st_take hT rfl rfl rfl rfl (Sx.x_move hT rfl rfl) ?_
              clear hT; intro a hT
              -- guard (11, 37)
              refine Sx.Sl.two hT 79 rfl (fun hc19 hT => ?_) (fun hc19 hT => ?_)
              · try simp only [decide_eq_true_eq, decide_eq_false_iff_not, Bool.not_eq_true', Bool.not_eq_false', Bool.not_eq_true, Bool.not_eq_false, Bool.and_eq_true, Bool.or_eq_false_iff, beq_iff_eq, bne_iff_ne, Int.not_lt, Int.not_le, ne_eq] at hc19
                refine Sx.st_take hT rfl rfl rfl rfl (Sx.x_move hT rfl rfl) ?_
                clear hT; intro a hT
                refine Sx.st_call hT rfl rfl rfl rfl rfl Try.can15 rfl (Len_calls L5 (H.blk 0 rfl)) ?_
                rintro _ w14 ⟨rfl, E⟩
                refine ⟨_, rfl, ?_⟩
                clear hT; intro a hT
                replace H := H.pure E; clear E
                refine Sx.st_take hT rfl rfl rfl rfl ((fun w => Sx.x_eq w hT rfl rfl rfl)) ?_
                clear hT; intro a hT
                refine Sx.st_take hT rfl rfl rfl rfl (Sx.x_pick_t hT rfl rfl rfl) ?_
                clear hT; intro a hT
                refine Sx.st_take hT rfl rfl rfl rfl (Sx.x_assign hT rfl rfl) ?_
                clear hT; intro a hT
                replace hT := hT.keep [0, 8, 7, 6, 5, 4, 3, 2, 11, 1] rfl
                refine Sx.ser_nil ?_
                refine Sx.then_normal (hK12 _ _ ?_)
                clear hK12
                refine wp_ret ?_
                refine Sx.done1 (fn := Try.f7) hT rfl (.tmp (hT.get 0 _ rfl)) ?_
                exact ⟨ret_b (by simp [hL5]), H.ext⟩
              · exfalso
                try simp only [decide_eq_true_eq, decide_eq_false_iff_not, Bool.not_eq_true', Bool.not_eq_false', Bool.not_eq_true, Bool.not_eq_false, Bool.and_eq_true, Bool.or_eq_false_iff, beq_iff_eq, bne_iff_ne, Int.not_lt, Int.not_le, ne_eq] at hc19
                first | (simp at hc19; done) | (simp at hc19; omega) | omega | (revert hc19; decide +kernel)
            · exfalso
              try simp only [decide_eq_true_eq, decide_eq_false_iff_not, Bool.not_eq_true', Bool.not_eq_false', Bool.not_eq_true, Bool.not_eq_false, Bool.and_eq_true, Bool.or_eq_false_iff, beq_iff_eq, bne_iff_ne, Int.not_lt, Int.not_le, ne_eq] at hc18
              first | (simp at hc18; done) | (simp at hc18; omega) | omega | (revert hc18; decide +kernel)
          · exfalso
            try simp only [decide_eq_true_eq, decide_eq_false_iff_not, Bool.not_eq_true', Bool.not_eq_false', Bool.not_eq_true, Bool.not_eq_false, Bool.and_eq_true, Bool.or_eq_false_iff, beq_iff_eq, bne_iff_ne, Int.not_lt, Int.not_le, ne_eq] at hc17
            first | (simp at hc17; done) | (simp at hc17; omega) | omega | (revert hc17; decide +kernel)
        · exfalso
          try simp only [decide_eq_true_eq, decide_eq_false_iff_not, Bool.not_eq_true', Bool.not_eq_false', Bool.not_eq_true, Bool.not_eq_false, Bool.and_eq_true, Bool.or_eq_false_iff, beq_iff_eq, bne_iff_ne, Int.not_lt, Int.not_le, ne_eq] at hc16
          first | (simp at hc16; done) | (simp at hc16; omega) | omega | (revert hc16; decide +kernel)
      · exfalso
        try simp only [decide_eq_true_eq, decide_eq_false_iff_not, Bool.not_eq_true', Bool.not_eq_false', Bool.not_eq_true, Bool.not_eq_false, Bool.and_eq_true, Bool.or_eq_false_iff, beq_iff_eq, bne_iff_ne, Int.not_lt, Int.not_le, ne_eq] at hc15
        first | (simp at hc15; done) | (simp at hc15; omega) | omega | (revert hc15; decide +kernel)
    · exfalso
      try simp only [decide_eq_true_eq, decide_eq_false_iff_not, Bool.not_eq_true', Bool.not_eq_false', Bool.not_eq_true, Bool.not_eq_false, Bool.and_eq_true, Bool.or_eq_false_iff, beq_iff_eq, bne_iff_ne, Int.not_lt, Int.not_le, ne_eq] at hc14
      first | (simp at hc14; done) | (simp at hc14; omega) | omega | (revert hc14; decide +kernel)
  · exfalso
    try simp only [decide_eq_true_eq, decide_eq_false_iff_not, Bool.not_eq_true', Bool.not_eq_false', Bool.not_eq_true, Bool.not_eq_false, Bool.and_eq_true, Bool.or_eq_false_iff, beq_iff_eq, bne_iff_ne, Int.not_lt, Int.not_le, ne_eq] at hc13
    first | (simp at hc13; done) | (simp at hc13; omega) | omega | (revert hc13; decide +kernel)

theorem few_calls {ad : Option Addr} {c : Nat} (l : List Op) {w : World} (hs : Ss w ad Op.cells 14 l) (hw : ∀ x ∈ l, Ss w x.f.ad Wt.cells 4 x.f.ws ∧ (∀ y ∈ x.f.ws, y.wf) ∧ (x.f.ad = none → x.f.ws.length = 0 ∧ x.f.c = 0) ∧ x.f.ws.length ≤ 9223372036854775806) (hl : l.length ≤ 9223372036854775806) : Calls Try.prog 8 #[.slice ad l.length c] w fun e w' => ∃ b : Bool, e = .returned (.bool b) ∧ (b = true → l.length ≤ 300 ∧ ∀ x ∈ l, x.f.ws.length ≤ 20000) ∧ Ext No w w' := by
  have R : Ro w No _ := Ro.of fun w' x => hs.ext_no x
  have RM : Ro w No (fun u => ∀ x ∈ l, Ss u x.f.ad Wt.cells 4 x.f.ws) := Ro.of fun w' x y hy => ((hw y hy).1).ext_no x
  refine Sx.calls_into Try.func8 rfl Try.ntmps8 rfl fun a hT => ?_
  replace hT := hT.keep [0] rfl
  have H : Sx.Hp w (Sx.No) w [] := Sx.Hp.start _ _
  refine wp_seq_k fun K1 hK1 => ?_
  -- region 0 (law.go:38)
  refine Sx.wp_text [(0, .take)] rfl ?_
  refine Sx.st_take hT rfl rfl rfl rfl (Sx.x_assign hT rfl rfl) ?_
  clear hT; intro a hT
  replace hT := hT.keep [2, 0] rfl
  refine Sx.ser_nil ?_
  refine Sx.then_normal (hK1 _ _ ?_)
  clear hK1
  refine wp_seq_k fun K2 hK2 => ?_
  -- region 1 (law.go:39)
  refine Sx.wp_text [(0, .take)] rfl ?_
  refine Sx.st_take hT rfl rfl rfl rfl (Sx.x_assign hT rfl rfl) ?_
  clear hT; intro a hT
  replace hT := hT.keep [3, 2, 0] rfl
  refine Sx.ser_nil ?_
  refine Sx.then_normal (hK2 _ _ ?_)
  clear hK2
  refine wp_seq_k fun K3 hK3 => ?_
  refine wp_seq_k fun K4 hK4 => ?_
  -- region 2 (law.go:40)
  refine Sx.wp_text [(0, .take)] rfl ?_
  refine Sx.st_take hT rfl rfl rfl rfl (Sx.x_assign hT rfl rfl) ?_
  clear hT; intro a hT
  replace hT := hT.keep [4, 3, 2, 0] rfl
  refine Sx.ser_nil ?_
  refine Sx.then_normal (hK4 _ _ ?_)
  clear hK4
  refine wp_block ?_
  -- loop 0
  refine Sx.wp_loopH (G := Nat × Nat) (fun ⟨i, n⟩ => [(4, .int .i64 (i : Int)), (3, .int .i64 (n : Int))]) (fun ⟨i, n⟩ => []) (fun ⟨i, n⟩ => i ≤ l.length ∧ i ≤ 300 ∧ n ≤ 60001 ∧ n = sumN (fun x => wwF 20000 x.f.ws 0) (l.take i)) (fun ⟨i, n⟩ => l.length - i) (0, 0) (hT.keep [4, 3, 2, 0] rfl) (H.keep [] rfl rfl) (⟨Nat.zero_le _, by decide, by decide, by rw [List.take_zero]; rfl⟩) ?_
  clear hT H
  rintro ⟨i, n⟩ a w1 hJ hT H
  replace hT := hT.keep [4, 3, 2, 0] rfl
  replace H := H.keep [] rfl rfl
  obtain ⟨hi, hi1, hn, hns⟩ := hJ
  refine wp_seq_k fun K5 hK5 => ?_
  refine wp_seq_k fun K6 hK6 => ?_
  -- region 3 (law.go:40)
  refine Sx.wp_text [(0, .take), (1, .take), (2, .take), (3, .take), (4, .take), (5, .take), (6, .take), (7, .take), (8, .take), (9, .take), (10, .take), (11, .take)] rfl ?_
  refine Sx.st_take hT rfl rfl rfl rfl (Sx.x_move hT rfl rfl) ?_
  clear hT; intro a hT
  refine Sx.st_take hT rfl rfl rfl rfl (Sx.x_move hT rfl rfl) ?_
  clear hT; intro a hT
  refine Sx.st_take hT rfl rfl rfl rfl (Sx.x_len_slice hT rfl rfl Try.underlying22 rfl) ?_
  clear hT; intro a hT
  refine Sx.st_take hT rfl rfl rfl rfl ((fun w => Sx.x_lt w hT rfl rfl rfl)) ?_
  clear hT; intro a hT
  refine Sx.st_take hT rfl rfl rfl rfl (Sx.x_move hT rfl rfl) ?_
  clear hT; intro a hT
  -- guard (3, 4)
  refine Sx.Sl.two hT 9 rfl (fun hc7 hT => ?_) (fun hc7 hT => ?_)
  · try simp only [decide_eq_true_eq, decide_eq_false_iff_not, Bool.not_eq_true', Bool.not_eq_false', Bool.not_eq_true, Bool.not_eq_false, Bool.and_eq_true, Bool.or_eq_false_iff, beq_iff_eq, bne_iff_ne, Int.not_lt, Int.not_le, ne_eq] at hc7
    refine Sx.st_take hT rfl rfl rfl rfl (Sx.x_move hT rfl rfl) ?_
    clear hT; intro a hT
    refine Sx.st_take hT rfl rfl rfl rfl ((fun w => Sx.x_lt w hT rfl rfl rfl)) ?_
    clear hT; intro a hT
    refine Sx.st_take hT rfl rfl rfl rfl (Sx.x_pick_t hT rfl rfl rfl) ?_
    clear hT; intro a hT
    refine Sx.st_take hT rfl rfl rfl rfl (Sx.x_move hT rfl rfl) ?_
    clear hT; intro a hT
    -- guard (3, 8)
    refine Sx.Sl.two hT 13 rfl (fun hc8 hT => ?_) (fun hc8 hT => ?_)
    · try simp only [decide_eq_true_eq, decide_eq_false_iff_not, Bool.not_eq_true', Bool.not_eq_false', Bool.not_eq_true, Bool.not_eq_false, Bool.and_eq_true, Bool.or_eq_false_iff, beq_iff_eq, bne_iff_ne, Int.not_lt, Int.not_le, ne_eq] at hc8
      refine Sx.st_take hT rfl rfl rfl rfl (Sx.x_move hT rfl rfl) ?_
      clear hT; intro a hT
      refine Sx.st_take hT rfl rfl rfl rfl ((fun w => Sx.x_le w hT rfl rfl rfl)) ?_
      clear hT; intro a hT
      refine Sx.st_take hT rfl rfl rfl rfl (Sx.x_pick_t hT rfl rfl rfl) ?_
      clear hT; intro a hT
      replace hT := hT.keep [16, 4, 3, 2, 0] rfl
      refine Sx.ser_nil ?_
      refine Sx.then_normal (hK6 _ _ ?_)
      clear hK6
      -- cond 0
      refine Sx.wp_if hT rfl (fun hc9 => ?_) (fun hc9 => ?_)
      · try simp only [decide_eq_true_eq, decide_eq_false_iff_not, Bool.not_eq_true', Bool.not_eq_false', Bool.not_eq_true, Bool.not_eq_false, Bool.and_eq_true, Bool.or_eq_false_iff, beq_iff_eq, bne_iff_ne, Int.not_lt, Int.not_le, ne_eq] at hc9
        obtain ⟨o, ho⟩ : ∃ o, l[i]? = some o := ⟨_, List.getElem?_eq_getElem (by omega)⟩
        have hom := List.mem_of_getElem? ho
        obtain ⟨-, hw2, -, hw3⟩ := hw o hom
        have hmx := ww_max (m := 20000) o.f.ws 0
        refine wp_skip ?_
        refine Sx.then_normal (hK5 _ _ ?_)
        clear hK5
        refine wp_seq_k fun K10 hK10 => ?_
        refine wp_block ?_
        -- region 5 (law.go:41)
        refine Sx.wp_text [(0, .take), (1, .take), (2, .take), (3, .take), (4, .take), (5, .take), (6, .run), (7, .run), (8, .take), (9, .take)] rfl ?_
        refine Sx.st_take hT rfl rfl rfl rfl (Sx.x_move hT rfl rfl) ?_
        clear hT; intro a hT
        refine Sx.st_take hT rfl rfl rfl rfl (Sx.x_move hT rfl rfl) ?_
        clear hT; intro a hT
        refine Sx.st_take hT rfl rfl rfl rfl (Sx.x_move hT rfl rfl) ?_
        clear hT; intro a hT
        refine Sx.st_take hT rfl rfl rfl rfl (Sx.x_index (k := i) hT rfl Try.underlying22 Try.ti37 (R.at H.ext).sv rfl rfl (by first | rfl | omega) (by omega)) ?_
        clear hT; intro a hT
        refine Sx.st_take hT rfl rfl rfl rfl (Sx.x_fieldAddr hT rfl Try.fa37_2 rfl) ?_
        clear hT; intro a hT
        refine Sx.st_take hT rfl rfl rfl rfl (Sx.x_fieldAddr hT rfl Try.fa35_4 rfl) ?_
        clear hT; intro a hT
        refine Sx.st_run hT rfl rfl rfl rfl (Sx.x_load1 hT rfl Try.fl33 rfl ((R.at H.ext).cell (j := 10) Op.len ho rfl)) ?_
        clear hT; intro a hT
        refine Sx.st_call hT rfl rfl rfl rfl rfl Try.can29 rfl (WeighWrites_calls o.f.ws ((RM.at H.ext) o hom) hw3 20000 (by decide) hw2) ?_
        rintro _ w2 ⟨rfl, E⟩
        refine ⟨_, rfl, ?_⟩
        clear hT; intro a hT
        replace H := H.pure E; clear E
        refine Sx.st_take hT rfl rfl rfl rfl ((fun w => Sx.x_add w hT rfl rfl rfl (Sx.wrap64 (by omega)))) ?_
        clear hT; intro a hT
        refine Sx.st_take hT rfl rfl rfl rfl (Sx.x_assign hT rfl rfl) ?_
        clear hT; intro a hT
        replace hT := hT.keep [3, 16, 4, 2, 0] rfl
        refine Sx.ser_nil ?_
        refine Sx.block_normal ?_
        refine Sx.then_normal (hK10 _ _ ?_)
        clear hK10
        -- region 4 (law.go:40)
        refine Sx.wp_text [(0, .take), (1, .take), (2, .take)] rfl ?_
        refine Sx.st_take hT rfl rfl rfl rfl (Sx.x_move hT rfl rfl) ?_
        clear hT; intro a hT
        refine Sx.st_take hT rfl rfl rfl rfl ((fun w => Sx.x_add w hT rfl rfl rfl (Sx.wrap64 (by omega)))) ?_
        clear hT; intro a hT
        refine Sx.st_take hT rfl rfl rfl rfl (Sx.x_assign hT rfl rfl) ?_
        clear hT; intro a hT
        replace hT := hT.keep [4, 3, 16, 2, 0] rfl
        refine Sx.ser_nil ?_
        refine Sx.then_normal ?_
        exact ⟨(i + 1, n + wwF 20000 o.f.ws 0), ⟨by show i + 1 ≤ _; omega, by show i + 1 ≤ _; omega, by show n + _ ≤ _; omega, by show n + _ = _; rw [sumN_snoc _ ho, ← hns]⟩, (hT.keep [4, 3, 2, 0] rfl), (H.keep [] rfl rfl), by show _ - (i + 1) < _ - i; omega⟩
      · try simp only [decide_eq_true_eq, decide_eq_false_iff_not, Bool.not_eq_true', Bool.not_eq_false', Bool.not_eq_true, Bool.not_eq_false, Bool.and_eq_true, Bool.or_eq_false_iff, beq_iff_eq, bne_iff_ne, Int.not_lt, Int.not_le, ne_eq] at hc9
        refine wp_exit ?_
        refine Sx.then_exit ?_
        refine Sx.then_exit ?_
        refine Sx.block_exit ?_
        refine Sx.then_normal (hK3 _ _ ?_)
        clear hK3
        refine wp_seq_k fun K11 hK11 => ?_
        -- region 6 (law.go:43)
        refine Sx.wp_text [(0, .take), (1, .take), (2, .take), (3, .take), (4, .take), (5, .take), (6, .take), (7, .take)] rfl ?_
        refine Sx.st_take hT rfl rfl rfl rfl (Sx.x_move hT rfl rfl) ?_
        clear hT; intro a hT
        refine Sx.st_take hT rfl rfl rfl rfl (Sx.x_len_slice hT rfl rfl Try.underlying22 rfl) ?_
        clear hT; intro a hT
        refine Sx.st_take hT rfl rfl rfl rfl ((fun w => Sx.x_le w hT rfl rfl rfl)) ?_
        clear hT; intro a hT
        refine Sx.st_take hT rfl rfl rfl rfl (Sx.x_move hT rfl rfl) ?_
        clear hT; intro a hT
        -- guard (6, 3)
        refine Sx.Sl.two hT 31 rfl (fun hc12 hT => ?_) (fun hc12 hT => ?_)
        · try simp only [decide_eq_true_eq, decide_eq_false_iff_not, Bool.not_eq_true', Bool.not_eq_false', Bool.not_eq_true, Bool.not_eq_false, Bool.and_eq_true, Bool.or_eq_false_iff, beq_iff_eq, bne_iff_ne, Int.not_lt, Int.not_le, ne_eq] at hc12
          refine Sx.st_take hT rfl rfl rfl rfl (Sx.x_move hT rfl rfl) ?_
          clear hT; intro a hT
          refine Sx.st_take hT rfl rfl rfl rfl ((fun w => Sx.x_le w hT rfl rfl rfl)) ?_
          clear hT; intro a hT
          refine Sx.st_take hT rfl rfl rfl rfl (Sx.x_pick_t hT rfl rfl rfl) ?_
          clear hT; intro a hT
          refine Sx.st_take hT rfl rfl rfl rfl (Sx.x_assign hT rfl rfl) ?_
          clear hT; intro a hT
          replace hT := hT.keep [2, 16, 4, 3, 0] rfl
          refine Sx.ser_nil ?_
          refine Sx.then_normal (hK11 _ _ ?_)
          clear hK11
          refine wp_ret ?_
          refine Sx.done1 (fn := Try.f8) hT rfl (.tmp (hT.get 2 _ rfl)) ?_
          refine ⟨_, rfl, fun h9 => ?_, H.ext⟩
          first
            | (cases h9; done)
            | (have h9 := of_decide_eq_true h9
               have hil : i = l.length := by omega
               rw [hil, List.take_length] at hns
               refine ⟨by omega, fun x hx => ?_⟩
               have h8 := (ww_facts x.f.ws 0 (Nat.le_trans (sumN_mem (f := fun x : Op => wwF 20000 x.f.ws 0) hx) (by omega))).1
               omega)
        · try simp only [decide_eq_true_eq, decide_eq_false_iff_not, Bool.not_eq_true', Bool.not_eq_false', Bool.not_eq_true, Bool.not_eq_false, Bool.and_eq_true, Bool.or_eq_false_iff, beq_iff_eq, bne_iff_ne, Int.not_lt, Int.not_le, ne_eq] at hc12
          refine Sx.st_skip hT rfl rfl rfl rfl ?_
          clear hT; intro a hT
          refine Sx.st_skip hT rfl rfl rfl rfl ?_
          clear hT; intro a hT
          refine Sx.st_take hT rfl rfl rfl rfl (Sx.x_pick_f hT rfl rfl rfl) ?_
          clear hT; intro a hT
          refine Sx.st_take hT rfl rfl rfl rfl (Sx.x_assign hT rfl rfl) ?_
          clear hT; intro a hT
          replace hT := hT.keep [2, 16, 4, 3, 0] rfl
          refine Sx.ser_nil ?_
          refine Sx.then_normal (hK11 _ _ ?_)
          clear hK11
          refine wp_ret ?_
          refine Sx.done1 (fn := Try.f8) hT rfl (.tmp (hT.get 2 _ rfl)) ?_
          refine ⟨_, rfl, fun h9 => ?_, H.ext⟩
          first
            | (cases h9; done)
            | (have h9 := of_decide_eq_true h9
               have hil : i = l.length := by omega
               rw [hil, List.take_length] at hns
               refine ⟨by omega, fun x hx => ?_⟩
               have h8 := (ww_facts x.f.ws 0 (Nat.le_trans (sumN_mem (f := fun x : Op => wwF 20000 x.f.ws 0) hx) (by omega))).1
               omega)
    · try simp only [decide_eq_true_eq, decide_eq_false_iff_not, Bool.not_eq_true', Bool.not_eq_false', Bool.not_eq_true, Bool.not_eq_false, Bool.and_eq_true, Bool.or_eq_false_iff, beq_iff_eq, bne_iff_ne, Int.not_lt, Int.not_le, ne_eq] at hc8
      refine Sx.st_skip hT rfl rfl rfl rfl ?_
      clear hT; intro a hT
      refine Sx.st_skip hT rfl rfl rfl rfl ?_
      clear hT; intro a hT
      refine Sx.st_take hT rfl rfl rfl rfl (Sx.x_pick_f hT rfl rfl rfl) ?_
      clear hT; intro a hT
      replace hT := hT.keep [16, 4, 3, 2, 0] rfl
      refine Sx.ser_nil ?_
      refine Sx.then_normal (hK6 _ _ ?_)
      clear hK6
      refine Sx.wp_if hT rfl (fun h => by cases h) (fun _ => ?_)
      refine wp_exit ?_
      refine Sx.then_exit ?_
      refine Sx.then_exit ?_
      refine Sx.block_exit ?_
      refine Sx.then_normal (hK3 _ _ ?_)
      clear hK3
      refine wp_seq_k fun K13 hK13 => ?_
      -- region 6 (law.go:43)
      refine Sx.wp_text [(0, .take), (1, .take), (2, .take), (3, .take), (4, .take), (5, .take), (6, .take), (7, .take)] rfl ?_
      refine Sx.st_take hT rfl rfl rfl rfl (Sx.x_move hT rfl rfl) ?_
      clear hT; intro a hT
      refine Sx.st_take hT rfl rfl rfl rfl (Sx.x_len_slice hT rfl rfl Try.underlying22 rfl) ?_
      clear hT; intro a hT
      refine Sx.st_take hT rfl rfl rfl rfl ((fun w => Sx.x_le w hT rfl rfl rfl)) ?_
      clear hT; intro a hT
      refine Sx.st_take hT rfl rfl rfl rfl (Sx.x_move hT rfl rfl) ?_
      clear hT; intro a hT
      -- guard (6, 3)
      refine Sx.Sl.two hT 31 rfl (fun hc14 hT => ?_) (fun hc14 hT => ?_)
      · try simp only [decide_eq_true_eq, decide_eq_false_iff_not, Bool.not_eq_true', Bool.not_eq_false', Bool.not_eq_true, Bool.not_eq_false, Bool.and_eq_true, Bool.or_eq_false_iff, beq_iff_eq, bne_iff_ne, Int.not_lt, Int.not_le, ne_eq] at hc14
        refine Sx.st_take hT rfl rfl rfl rfl (Sx.x_move hT rfl rfl) ?_
        clear hT; intro a hT
        refine Sx.st_take hT rfl rfl rfl rfl ((fun w => Sx.x_le w hT rfl rfl rfl)) ?_
        clear hT; intro a hT
        refine Sx.st_take hT rfl rfl rfl rfl (Sx.x_pick_t hT rfl rfl rfl) ?_
        clear hT; intro a hT
        refine Sx.st_take hT rfl rfl rfl rfl (Sx.x_assign hT rfl rfl) ?_
        clear hT; intro a hT
        replace hT := hT.keep [2, 16, 4, 3, 0] rfl
        refine Sx.ser_nil ?_
        refine Sx.then_normal (hK13 _ _ ?_)
        clear hK13
        refine wp_ret ?_
        refine Sx.done1 (fn := Try.f8) hT rfl (.tmp (hT.get 2 _ rfl)) ?_
        refine ⟨_, rfl, fun h9 => ?_, H.ext⟩
        first
          | (cases h9; done)
          | (have h9 := of_decide_eq_true h9
             have hil : i = l.length := by omega
             rw [hil, List.take_length] at hns
             refine ⟨by omega, fun x hx => ?_⟩
             have h8 := (ww_facts x.f.ws 0 (Nat.le_trans (sumN_mem (f := fun x : Op => wwF 20000 x.f.ws 0) hx) (by omega))).1
             omega)
      · try simp only [decide_eq_true_eq, decide_eq_false_iff_not, Bool.not_eq_true', Bool.not_eq_false', Bool.not_eq_true, Bool.not_eq_false, Bool.and_eq_true, Bool.or_eq_false_iff, beq_iff_eq, bne_iff_ne, Int.not_lt, Int.not_le, ne_eq] at hc14
        refine Sx.st_skip hT rfl rfl rfl rfl ?_
        clear hT; intro a hT
        refine Sx.st_skip hT rfl rfl rfl rfl ?_
        clear hT; intro a hT
        refine Sx.st_take hT rfl rfl rfl rfl (Sx.x_pick_f hT rfl rfl rfl) ?_
        clear hT; intro a hT
        refine Sx.st_take hT rfl rfl rfl rfl (Sx.x_assign hT rfl rfl) ?_
        clear hT; intro a hT
        replace hT := hT.keep [2, 16, 4, 3, 0] rfl
        refine Sx.ser_nil ?_
        refine Sx.then_normal (hK13 _ _ ?_)
        clear hK13
        refine wp_ret ?_
        refine Sx.done1 (fn := Try.f8) hT rfl (.tmp (hT.get 2 _ rfl)) ?_
        refine ⟨_, rfl, fun h9 => ?_, H.ext⟩
        first
          | (cases h9; done)
          | (have h9 := of_decide_eq_true h9
             have hil : i = l.length := by omega
             rw [hil, List.take_length] at hns
             refine ⟨by omega, fun x hx => ?_⟩
             have h8 := (ww_facts x.f.ws 0 (Nat.le_trans (sumN_mem (f := fun x : Op => wwF 20000 x.f.ws 0) hx) (by omega))).1
             omega)
  · try simp only [decide_eq_true_eq, decide_eq_false_iff_not, Bool.not_eq_true', Bool.not_eq_false', Bool.not_eq_true, Bool.not_eq_false, Bool.and_eq_true, Bool.or_eq_false_iff, beq_iff_eq, bne_iff_ne, Int.not_lt, Int.not_le, ne_eq] at hc7
    refine Sx.st_skip hT rfl rfl rfl rfl ?_
    clear hT; intro a hT
    refine Sx.st_skip hT rfl rfl rfl rfl ?_
    clear hT; intro a hT
    refine Sx.st_take hT rfl rfl rfl rfl (Sx.x_pick_f hT rfl rfl rfl) ?_
    clear hT; intro a hT
    refine Sx.st_take hT rfl rfl rfl rfl (Sx.x_move hT rfl rfl) ?_
    clear hT; intro a hT
    refine Sx.st_skip hT rfl rfl rfl rfl ?_
    clear hT; intro a hT
    refine Sx.st_skip hT rfl rfl rfl rfl ?_
    clear hT; intro a hT
    refine Sx.st_take hT rfl rfl rfl rfl (Sx.x_pick_f hT rfl rfl rfl) ?_
    clear hT; intro a hT
    replace hT := hT.keep [16, 4, 3, 2, 0] rfl
    refine Sx.ser_nil ?_
    refine Sx.then_normal (hK6 _ _ ?_)
    clear hK6
    refine Sx.wp_if hT rfl (fun h => by cases h) (fun _ => ?_)
    refine wp_exit ?_
    refine Sx.then_exit ?_
    refine Sx.then_exit ?_
    refine Sx.block_exit ?_
    refine Sx.then_normal (hK3 _ _ ?_)
    clear hK3
    refine wp_seq_k fun K15 hK15 => ?_
    -- region 6 (law.go:43)
    refine Sx.wp_text [(0, .take), (1, .take), (2, .take), (3, .take), (4, .take), (5, .take), (6, .take), (7, .take)] rfl ?_
    refine Sx.st_take hT rfl rfl rfl rfl (Sx.x_move hT rfl rfl) ?_
    clear hT; intro a hT
    refine Sx.st_take hT rfl rfl rfl rfl (Sx.x_len_slice hT rfl rfl Try.underlying22 rfl) ?_
    clear hT; intro a hT
    refine Sx.st_take hT rfl rfl rfl rfl ((fun w => Sx.x_le w hT rfl rfl rfl)) ?_
    clear hT; intro a hT
    refine Sx.st_take hT rfl rfl rfl rfl (Sx.x_move hT rfl rfl) ?_
    clear hT; intro a hT
    -- guard (6, 3)
    refine Sx.Sl.two hT 31 rfl (fun hc16 hT => ?_) (fun hc16 hT => ?_)
    · try simp only [decide_eq_true_eq, decide_eq_false_iff_not, Bool.not_eq_true', Bool.not_eq_false', Bool.not_eq_true, Bool.not_eq_false, Bool.and_eq_true, Bool.or_eq_false_iff, beq_iff_eq, bne_iff_ne, Int.not_lt, Int.not_le, ne_eq] at hc16
      refine Sx.st_take hT rfl rfl rfl rfl (Sx.x_move hT rfl rfl) ?_
      clear hT; intro a hT
      refine Sx.st_take hT rfl rfl rfl rfl ((fun w => Sx.x_le w hT rfl rfl rfl)) ?_
      clear hT; intro a hT
      refine Sx.st_take hT rfl rfl rfl rfl (Sx.x_pick_t hT rfl rfl rfl) ?_
      clear hT; intro a hT
      refine Sx.st_take hT rfl rfl rfl rfl (Sx.x_assign hT rfl rfl) ?_
      clear hT; intro a hT
      replace hT := hT.keep [2, 16, 4, 3, 0] rfl
      refine Sx.ser_nil ?_
      refine Sx.then_normal (hK15 _ _ ?_)
      clear hK15
      refine wp_ret ?_
      refine Sx.done1 (fn := Try.f8) hT rfl (.tmp (hT.get 2 _ rfl)) ?_
      refine ⟨_, rfl, fun h9 => ?_, H.ext⟩
      first
        | (cases h9; done)
        | (have h9 := of_decide_eq_true h9
           have hil : i = l.length := by omega
           rw [hil, List.take_length] at hns
           refine ⟨by omega, fun x hx => ?_⟩
           have h8 := (ww_facts x.f.ws 0 (Nat.le_trans (sumN_mem (f := fun x : Op => wwF 20000 x.f.ws 0) hx) (by omega))).1
           omega)
    · try simp only [decide_eq_true_eq, decide_eq_false_iff_not, Bool.not_eq_true', Bool.not_eq_false', Bool.not_eq_true, Bool.not_eq_false, Bool.and_eq_true, Bool.or_eq_false_iff, beq_iff_eq, bne_iff_ne, Int.not_lt, Int.not_le, ne_eq] at hc16
      refine Sx.st_skip hT rfl rfl rfl rfl ?_
      clear hT; intro a hT
      refine Sx.st_skip hT rfl rfl rfl rfl ?_
      clear hT; intro a hT
      refine Sx.st_take hT rfl rfl rfl rfl (Sx.x_pick_f hT rfl rfl rfl) ?_
      clear hT; intro a hT
      refine Sx.st_take hT rfl rfl rfl rfl (Sx.x_assign hT rfl rfl) ?_
      clear hT; intro a hT
      replace hT := hT.keep [2, 16, 4, 3, 0] rfl
      refine Sx.ser_nil ?_
      refine Sx.then_normal (hK15 _ _ ?_)
      clear hK15
      refine wp_ret ?_
      refine Sx.done1 (fn := Try.f8) hT rfl (.tmp (hT.get 2 _ rfl)) ?_
      refine ⟨_, rfl, fun h9 => ?_, H.ext⟩
      first
        | (cases h9; done)
        | (have h9 := of_decide_eq_true h9
           have hil : i = l.length := by omega
           rw [hil, List.take_length] at hns
           refine ⟨by omega, fun x hx => ?_⟩
           have h8 := (ww_facts x.f.ws 0 (Nat.le_trans (sumN_mem (f := fun x : Op => wwF 20000 x.f.ws 0) hx) (by omega))).1
           omega)

end Go.Proofs.Ythhdoeflafakaaa
