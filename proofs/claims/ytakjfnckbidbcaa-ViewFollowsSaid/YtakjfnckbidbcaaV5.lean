/- Walks: groups added up. -/
import Derived.Test.YtakjfnckbidbcaaV4
set_option linter.unusedSimpArgs false
set_option linter.unusedVariables false
namespace Go.Proofs.Ytakjfnckbidbcaa
open Sx
theorem Try.can24 : Sx.Can Try.prog 24 := ⟨_, Try.func24, by kernel_rfl, rfl⟩
theorem Try.can25 : Sx.Can Try.prog 25 := ⟨_, Try.func25, by kernel_rfl, rfl⟩
def wadd (x y : Int) : Int := IntKind.i64.wrap (x + y)
def anyS (x g : G6) : G6 := if 0 < g.nums then { endsG x g.least g.most with nums := 1 } else x
def tK (l : List G6) : Int := l.foldl (fun x g => wadd x g.keys) 0
def tN (l : List G6) : Int := l.foldl (fun x g => wadd x g.nums) 0
def tA (l : List G6) : G6 := l.foldl anyS gz6
def totF (l : List G6) : G6 := ⟨[], tK l, tN l, fsum (l.map G6.sum), (tA l).least, (tA l).most⟩
theorem tK_snoc {l : List G6} {k : Nat} {o : G6} (h : l[k]? = some o) : tK (l.take (k + 1)) = wadd (tK (l.take k)) o.keys := by
  unfold tK; rw [take_app h, List.foldl_append]; rfl
theorem tN_snoc {l : List G6} {k : Nat} {o : G6} (h : l[k]? = some o) : tN (l.take (k + 1)) = wadd (tN (l.take k)) o.nums := by
  unfold tN; rw [take_app h, List.foldl_append]; rfl
theorem tA_snoc {l : List G6} {k : Nat} {o : G6} (h : l[k]? = some o) : tA (l.take (k + 1)) = anyS (tA (l.take k)) o := by
  unfold tA; rw [take_app h, List.foldl_append]; rfl
theorem tk_s {l : List G6} {k : Nat} {o : G6} (h : l[k]? = some o) : ((l.take k).map G6.sum).flatMap fcell ++ [.float .f64 o.sum] = ((l.take (k + 1)).map G6.sum).flatMap fcell := by
  rw [take_app h, List.map_append, List.flatMap_append]; rfl

theorem EndsB_calls {S : Nat → Prop} {bp : Nat} (g : G6) (p q : Nat) {w : World} (H : Hp w S w [cB bp g.cells 56]) : Calls Try.prog 46 #[.pointer (some ⟨bp, 0, none⟩), .float .f64 p, .float .f64 q] w fun e w' => e = .returned (.tuple #[]) ∧ Hp w S w' [cB bp (endsG g p q).cells 56] := by
  refine Sx.calls_into Try.func46 rfl Try.ntmps46 rfl fun a hT => ?_
  replace hT := hT.keep [0, 1, 2] rfl
  refine wp_seq_k fun K1 hK1 => ?_
  refine wp_seq_k fun K2 hK2 => ?_
  -- region 0 (view.go:94)
  refine Sx.wp_text [(0, .take), (1, .take), (2, .take), (3, .run), (4, .take)] rfl ?_
  refine Sx.st_take hT rfl rfl rfl rfl (Sx.x_move hT rfl rfl) ?_
  clear hT; intro a hT
  refine Sx.st_take hT rfl rfl rfl rfl (Sx.x_nilCheck hT rfl rfl) ?_
  clear hT; intro a hT
  refine Sx.st_take hT rfl rfl rfl rfl (Sx.x_fieldAddr hT rfl Try.fa56_2 rfl) ?_
  clear hT; intro a hT
  refine Sx.st_run hT rfl rfl rfl rfl (Sx.x_load1 hT rfl Try.fl3 rfl ((H.blk 0 rfl).nth rfl)) ?_
  clear hT; intro a hT
  refine Sx.st_take hT rfl rfl rfl rfl ((fun w => Sx.x_eq w hT rfl rfl rfl)) ?_
  clear hT; intro a hT
  replace hT := hT.keep [10, 0, 1, 2] rfl
  refine Sx.ser_nil ?_
  refine Sx.then_normal (hK2 _ _ ?_)
  clear hK2
  -- cond 0
  refine Sx.wp_if hT rfl (fun hc3 => ?_) (fun hc3 => ?_)
  · try simp only [decide_eq_true_eq, decide_eq_false_iff_not, Bool.not_eq_true', Bool.not_eq_false', Bool.not_eq_true, Bool.not_eq_false, Bool.and_eq_true, Bool.or_eq_false_iff, beq_iff_eq, bne_iff_ne, Int.not_lt, Int.not_le, ne_eq] at hc3
    have hn0 : g.nums = 0 := hc3
    refine wp_seq_k fun K4 hK4 => ?_
    -- region 1 (view.go:95)
    refine Sx.wp_text [(0, .take), (1, .take), (2, .take), (3, .run), (4, .take), (5, .run), (6, .take), (7, .take), (8, .run), (9, .take), (10, .take), (11, .run)] rfl ?_
    refine Sx.st_take hT rfl rfl rfl rfl (Sx.x_move hT rfl rfl) ?_
    clear hT; intro a hT
    refine Sx.st_take hT rfl rfl rfl rfl (Sx.x_move hT rfl rfl) ?_
    clear hT; intro a hT
    refine Sx.st_take hT rfl rfl rfl rfl (Sx.x_move hT rfl rfl) ?_
    clear hT; intro a hT
    refine Sx.st_call hT rfl rfl rfl rfl rfl Try.can68 rfl (Canon_calls _ _) ?_
    rintro _ w1 ⟨rfl, E⟩
    refine ⟨_, rfl, ?_⟩
    clear hT; intro a hT
    replace H := H.pure E; clear E
    refine Sx.st_take hT rfl rfl rfl rfl (Sx.x_move hT rfl rfl) ?_
    clear hT; intro a hT
    refine Sx.st_call hT rfl rfl rfl rfl rfl Try.can68 rfl (Canon_calls _ _) ?_
    rintro _ w2 ⟨rfl, E⟩
    refine ⟨_, rfl, ?_⟩
    clear hT; intro a hT
    replace H := H.pure E; clear E
    refine Sx.st_take hT rfl rfl rfl rfl (Sx.x_nilCheck hT rfl rfl) ?_
    clear hT; intro a hT
    refine Sx.st_take hT rfl rfl rfl rfl (Sx.x_fieldAddr hT rfl Try.fa56_4 rfl) ?_
    clear hT; intro a hT
    refine Sx.st_act hT rfl rfl rfl (Sx.y_store1 hT rfl Try.ti46 rfl rfl rfl (H.blk 0 rfl) rfl) ?_
    rintro w3 ⟨hb, E, _⟩
    replace H := H.setB 0 rfl hb E rfl; clear hb E
    refine Sx.st_take hT rfl rfl rfl rfl (Sx.x_nilCheck hT rfl rfl) ?_
    clear hT; intro a hT
    refine Sx.st_take hT rfl rfl rfl rfl (Sx.x_fieldAddr hT rfl Try.fa56_5 rfl) ?_
    clear hT; intro a hT
    refine Sx.st_act hT rfl rfl rfl (Sx.y_store1 hT rfl Try.ti46 rfl rfl rfl (H.blk 0 rfl) rfl) ?_
    rintro w4 ⟨hb, E, _⟩
    replace H := H.setB 0 rfl hb E rfl; clear hb E
    replace hT := hT.keep [10, 0, 1, 2] rfl
    refine Sx.ser_nil ?_
    refine Sx.then_normal (hK4 _ _ ?_)
    clear hK4
    refine wp_ret ?_
    refine Sx.then_ret ?_
    refine Sx.done0 (fn := Try.f46) hT rfl  ?_
    unfold endsG
    rw [if_pos hn0]
    exact ⟨rfl, H⟩
  · try simp only [decide_eq_true_eq, decide_eq_false_iff_not, Bool.not_eq_true', Bool.not_eq_false', Bool.not_eq_true, Bool.not_eq_false, Bool.and_eq_true, Bool.or_eq_false_iff, beq_iff_eq, bne_iff_ne, Int.not_lt, Int.not_le, ne_eq] at hc3
    have hn0 : g.nums ≠ 0 := hc3
    refine wp_skip ?_
    refine Sx.then_normal (hK1 _ _ ?_)
    clear hK1
    -- region 2 (view.go:98)
    refine Sx.wp_draws (fun u => Sx.Ext (Sx.No) u) [(0, .take), (1, .take), (2, .take), (3, .take), (4, .take), (5, .held), (6, .take), (8, .take), (9, .take), (10, .take), (11, .held), (12, .take), (7, .keep), (13, .run), (14, .take), (15, .take), (16, .run), (17, .take), (18, .take), (19, .run)] (by kernel_rfl) (by kernel_rfl) (fun u E _ => ?_)
    replace H := H.pure E; clear E
    have hH : Sx.Ext (Sx.No) u u := Sx.Ext.refl _ _
    have Hu := H
    refine Sx.st_take hT rfl rfl rfl rfl (Sx.x_move hT rfl rfl) ?_
    clear hT; intro a hT
    refine Sx.st_take hT rfl rfl rfl rfl (Sx.x_move hT rfl rfl) ?_
    clear hT; intro a hT
    refine Sx.st_take hT rfl rfl rfl rfl (Sx.x_move hT rfl rfl) ?_
    clear hT; intro a hT
    refine Sx.st_take hT rfl rfl rfl rfl (Sx.x_nilCheck hT rfl rfl) ?_
    clear hT; intro a hT
    refine Sx.st_take hT rfl rfl rfl rfl (Sx.x_fieldAddr hT rfl Try.fa56_4 rfl) ?_
    clear hT; intro a hT
    refine Sx.st_held hT rfl rfl rfl rfl hH (fun w' h' => Sx.x_load1 hT rfl Try.fl46 rfl ((Hu.heldB 0 rfl h' Sx.off_No).nth rfl)) ?_
    clear hT; intro a hT
    refine Sx.st_take hT rfl rfl rfl rfl (Sx.x_move hT rfl rfl) ?_
    clear hT; intro a hT
    refine Sx.st_take hT rfl rfl rfl rfl (Sx.x_move hT rfl rfl) ?_
    clear hT; intro a hT
    refine Sx.st_take hT rfl rfl rfl rfl (Sx.x_nilCheck hT rfl rfl) ?_
    clear hT; intro a hT
    refine Sx.st_take hT rfl rfl rfl rfl (Sx.x_fieldAddr hT rfl Try.fa56_5 rfl) ?_
    clear hT; intro a hT
    refine Sx.st_held hT rfl rfl rfl rfl hH (fun w' h' => Sx.x_load1 hT rfl Try.fl46 rfl ((Hu.heldB 0 rfl h' Sx.off_No).nth rfl)) ?_
    clear hT; intro a hT
    refine Sx.st_take hT rfl rfl rfl rfl (Sx.x_move hT rfl rfl) ?_
    clear hT; intro a hT
    refine Sx.st_callkeep hT rfl rfl rfl rfl rfl Try.can69 rfl (Least_calls _ _ _) ?_
    rintro _ w5 ⟨rfl, E⟩
    refine ⟨_, rfl, hH.step E, ?_⟩
    replace hH := hH.step E
    clear hT; intro a hT
    replace H := H.pure E; clear E
    refine Sx.st_call hT rfl rfl rfl rfl rfl Try.can70 rfl (Most_calls _ _ _) ?_
    rintro _ w6 ⟨rfl, E⟩
    refine ⟨_, rfl, ?_⟩
    clear hT; intro a hT
    replace H := H.pure E; clear E
    refine Sx.st_take hT rfl rfl rfl rfl (Sx.x_nilCheck hT rfl rfl) ?_
    clear hT; intro a hT
    refine Sx.st_take hT rfl rfl rfl rfl (Sx.x_fieldAddr hT rfl Try.fa56_4 rfl) ?_
    clear hT; intro a hT
    refine Sx.st_act hT rfl rfl rfl (Sx.y_store1 hT rfl Try.ti46 rfl rfl rfl (H.blk 0 rfl) rfl) ?_
    rintro w7 ⟨hb, E, _⟩
    replace H := H.setB 0 rfl hb E rfl; clear hb E
    refine Sx.st_take hT rfl rfl rfl rfl (Sx.x_nilCheck hT rfl rfl) ?_
    clear hT; intro a hT
    refine Sx.st_take hT rfl rfl rfl rfl (Sx.x_fieldAddr hT rfl Try.fa56_5 rfl) ?_
    clear hT; intro a hT
    refine Sx.st_act hT rfl rfl rfl (Sx.y_store1 hT rfl Try.ti46 rfl rfl rfl (H.blk 0 rfl) rfl) ?_
    rintro w8 ⟨hb, E, _⟩
    replace H := H.setB 0 rfl hb E rfl; clear hb E
    replace hT := hT.keep [10, 0, 1, 2] rfl
    clear Hu hH
    refine Sx.ser_calm ?_
    refine Sx.done_end ?_
    refine Sx.done0 (fn := Try.f46) hT rfl  ?_
    unfold endsG
    rw [if_neg hn0]
    exact ⟨rfl, H⟩

theorem Total_calls {ad : Option Addr} {c : Nat} (l : List G6) {w : World} (hs : Ss w ad G6.cells 6 l) (hl : l.length ≤ 1000000) : Calls Try.prog 24 #[.slice ad l.length c] w fun e w' => e = .returned (.agg #[.string ⟨(totF l).name.toArray⟩, .int .i64 (totF l).keys, .int .i64 (totF l).nums, .float .f64 (totF l).sum, .float .f64 (totF l).least, .float .f64 (totF l).most]) ∧ Ext No w w' := by
  have R : Ro w No _ := Ro.of fun w' x => hs.ext_no x
  refine Sx.calls_into Try.func24 rfl Try.ntmps24 rfl fun a hT => ?_
  replace hT := hT.keep [0] rfl
  have H : Sx.Hp w (Sx.No) w [] := Sx.Hp.start _ _
  refine wp_seq_k fun K1 hK1 => ?_
  -- region 0 (view.go:125)
  refine Sx.wp_text [(0, .run)] rfl ?_
  refine Sx.st_eff hT rfl rfl rfl rfl (Sx.y_alloc hT rfl Try.ti56 rfl _) ?_
  clear hT; rintro _ w1 ⟨b1, rfl, N⟩ a hT
  replace H := H.new N; clear N
  replace hT := hT.keep [2, 0] rfl
  refine Sx.ser_nil ?_
  refine Sx.then_normal (hK1 _ _ ?_)
  clear hK1
  refine wp_seq_k fun K2 hK2 => ?_
  -- region 1 (view.go:126)
  refine Sx.wp_text [(0, .run)] rfl ?_
  refine Sx.st_eff hT rfl rfl rfl rfl (Sx.y_alloc hT rfl Try.ti56 rfl _) ?_
  clear hT; rintro _ w2 ⟨b2, rfl, N⟩ a hT
  replace H := H.new N; clear N
  replace hT := hT.keep [3, 2, 0] rfl
  refine Sx.ser_nil ?_
  refine Sx.then_normal (hK2 _ _ ?_)
  clear hK2
  refine wp_seq_k fun K3 hK3 => ?_
  -- region 2 (view.go:127)
  refine Sx.wp_text [(0, .take)] rfl ?_
  refine Sx.st_take hT rfl rfl rfl rfl (Sx.x_assign hT rfl rfl) ?_
  clear hT; intro a hT
  replace hT := hT.keep [4, 3, 2, 0] rfl
  refine Sx.ser_nil ?_
  refine Sx.then_normal (hK3 _ _ ?_)
  clear hK3
  refine wp_seq_k fun K4 hK4 => ?_
  -- region 3 (view.go:128)
  refine Sx.wp_text [(0, .take), (1, .run), (2, .run)] rfl ?_
  refine Sx.st_take hT rfl rfl rfl rfl (Sx.x_bld hT rfl Try.bld56 rfl rfl) ?_
  clear hT; intro a hT
  refine Sx.st_eff hT rfl rfl rfl rfl (Sx.y_alloc hT rfl Try.ti56 rfl _) ?_
  clear hT; rintro _ w3 ⟨b3, rfl, N⟩ a hT
  replace H := H.new N; clear N
  refine Sx.st_act hT rfl rfl rfl (Sx.y_storeS hT rfl Try.ti56 rfl rfl rfl rfl rfl (H.blk 0 rfl) rfl) ?_
  rintro w4 ⟨hb, E, _⟩
  replace H := H.setB 0 rfl hb E rfl; clear hb E
  replace hT := hT.keep [5, 4, 3, 2, 0] rfl
  refine Sx.ser_nil ?_
  refine Sx.then_normal (hK4 _ _ ?_)
  clear hK4
  refine wp_seq_k fun K5 hK5 => ?_
  refine wp_seq_k fun K6 hK6 => ?_
  -- region 4 (view.go:129)
  refine Sx.wp_text [(0, .take), (1, .take), (2, .take)] rfl ?_
  refine Sx.st_take hT rfl rfl rfl rfl (Sx.x_move hT rfl rfl) ?_
  clear hT; intro a hT
  refine Sx.st_take hT rfl rfl rfl rfl (Sx.x_len_slice hT rfl rfl Try.underlying51 rfl) ?_
  clear hT; intro a hT
  refine Sx.st_take hT rfl rfl rfl rfl (Sx.x_move hT rfl rfl) ?_
  clear hT; intro a hT
  replace hT := hT.keep [11, 10, 9, 5, 4, 3, 2, 0] rfl
  refine Sx.ser_nil ?_
  refine Sx.then_normal (hK6 _ _ ?_)
  clear hK6
  refine wp_block ?_
  replace H := H.nilR 46 1
  -- loop 0
  refine Sx.wp_loopH (G := Nat × Int × Int × G6 × Option Addr × Nat) (fun ⟨k, ks, nm, an, ad2, c2⟩ => [(11, .int .i64 (k : Int)), (4, .slice ad2 k c2)]) (fun ⟨k, ks, nm, an, ad2, c2⟩ => [cB b2 (⟨[], ks, nm, 0, 0, 0⟩ : G6).cells 56, cB b3 an.cells 56, cR 46 1 ad2 k c2 (((l.take k).map G6.sum).flatMap fcell)]) (fun ⟨k, ks, nm, an, ad2, c2⟩ => k ≤ l.length ∧ ks = tK (l.take k) ∧ nm = tN (l.take k) ∧ an = tA (l.take k)) (fun ⟨k, ks, nm, an, ad2, c2⟩ => l.length - k) (0, 0, 0, gz6, none, 0) (hT.keep [11, 4, 10, 9, 5, 3, 2, 0] rfl) (H.keep [2, 1, 0, 3] rfl rfl) (⟨Nat.zero_le _, (by rw [List.take_zero]; rfl), (by rw [List.take_zero]; rfl), (by rw [List.take_zero]; rfl)⟩) ?_
  clear hT H
  rintro ⟨k, ks, nm, an, ad2, c2⟩ a w5 hJ hT H
  replace hT := hT.keep [11, 4, 10, 9, 5, 3, 2, 0] rfl
  replace H := H.keep [0, 1, 2, 3] rfl rfl
  obtain ⟨hk, hks, hnm, han⟩ := hJ
  refine wp_seq_k fun K7 hK7 => ?_
  -- region 5 (view.go:129)
  refine Sx.wp_text [(0, .take)] rfl ?_
  refine Sx.st_take hT rfl rfl rfl rfl ((fun w => Sx.x_lt w hT rfl rfl rfl)) ?_
  clear hT; intro a hT
  replace hT := hT.keep [12, 11, 4, 10, 9, 5, 3, 2, 0] rfl
  refine Sx.ser_nil ?_
  refine Sx.then_normal (hK7 _ _ ?_)
  clear hK7
  refine wp_seq_k fun K8 hK8 => ?_
  -- cond 0
  refine Sx.wp_if hT rfl (fun hc9 => ?_) (fun hc9 => ?_)
  · try simp only [decide_eq_true_eq, decide_eq_false_iff_not, Bool.not_eq_true', Bool.not_eq_false', Bool.not_eq_true, Bool.not_eq_false, Bool.and_eq_true, Bool.or_eq_false_iff, beq_iff_eq, bne_iff_ne, Int.not_lt, Int.not_le, ne_eq] at hc9
    obtain ⟨o, ho⟩ : ∃ o, l[k]? = some o := ⟨_, List.getElem?_eq_getElem (by omega)⟩
    refine wp_skip ?_
    refine Sx.then_normal (hK8 _ _ ?_)
    clear hK8
    refine wp_seq_k fun K10 hK10 => ?_
    refine wp_block ?_
    refine wp_seq_k fun K11 hK11 => ?_
    -- region 6 (view.go:129)
    refine Sx.wp_text [(0, .take), (1, .run), (2, .run), (3, .run)] rfl ?_
    refine Sx.st_take hT rfl rfl rfl rfl (Sx.x_index (k := k) hT rfl Try.underlying51 Try.ti56 (R.at H.ext).sv rfl rfl (by first | rfl | omega) (by omega)) ?_
    clear hT; intro a hT
    refine Sx.st_run hT rfl rfl rfl rfl (Sx.y_loadS hT rfl Try.underlying56 Try.ti56 rfl (by first | exact ((H.blk 0 rfl).seg (k := 6) rfl) | exact ((H.blk 1 rfl).seg (k := 6) rfl) | exact ((H.blk 3 rfl).seg (k := 6) rfl) | exact ((R.at H.ext).cs G6.len ho)) (by rfl)) ?_
    clear hT; intro a hT
    refine Sx.st_eff hT rfl rfl rfl rfl (Sx.y_alloc hT rfl Try.ti56 rfl _) ?_
    clear hT; rintro _ w6 ⟨b4, rfl, N⟩ a hT
    replace H := H.new N; clear N
    refine Sx.st_act hT rfl rfl rfl (Sx.y_storeS hT rfl Try.ti56 rfl rfl rfl rfl rfl (H.blk 0 rfl) rfl) ?_
    rintro w7 ⟨hb, E, _⟩
    replace H := H.setB 0 rfl hb E rfl; clear hb E
    replace hT := hT.keep [7, 12, 11, 4, 10, 9, 5, 3, 2, 0] rfl
    refine Sx.ser_nil ?_
    refine Sx.then_normal (hK11 _ _ ?_)
    clear hK11
    refine wp_seq_k fun K12 hK12 => ?_
    -- region 7 (view.go:130)
    refine Sx.wp_text [(0, .take), (1, .run), (2, .take), (3, .run), (4, .take), (5, .take), (6, .run)] rfl ?_
    refine Sx.st_take hT rfl rfl rfl rfl (Sx.x_fieldAddr hT rfl Try.fa56_1 rfl) ?_
    clear hT; intro a hT
    refine Sx.st_run hT rfl rfl rfl rfl (Sx.x_load1 hT rfl Try.fl3 rfl ((H.blk 1 rfl).nth rfl)) ?_
    clear hT; intro a hT
    refine Sx.st_take hT rfl rfl rfl rfl (Sx.x_fieldAddr hT rfl Try.fa56_1 rfl) ?_
    clear hT; intro a hT
    refine Sx.st_run hT rfl rfl rfl rfl (Sx.x_load1 hT rfl Try.fl3 rfl ((H.blk 0 rfl).nth rfl)) ?_
    clear hT; intro a hT
    refine Sx.st_take hT rfl rfl rfl rfl ((fun w => Sx.x_add w hT rfl rfl rfl rfl)) ?_
    clear hT; intro a hT
    refine Sx.st_take hT rfl rfl rfl rfl (Sx.x_fieldAddr hT rfl Try.fa56_1 rfl) ?_
    clear hT; intro a hT
    refine Sx.st_act hT rfl rfl rfl (Sx.y_store1 hT rfl Try.ti3 rfl rfl rfl (H.blk 1 rfl) rfl) ?_
    rintro w8 ⟨hb, E, _⟩
    replace H := H.setB 1 rfl hb E rfl; clear hb E
    replace hT := hT.keep [7, 12, 11, 4, 10, 9, 5, 3, 2, 0] rfl
    refine Sx.ser_nil ?_
    refine Sx.then_normal (hK12 _ _ ?_)
    clear hK12
    refine wp_seq_k fun K13 hK13 => ?_
    -- region 8 (view.go:131)
    refine Sx.wp_text [(0, .take), (1, .run), (2, .take), (3, .run), (4, .take), (5, .take), (6, .run)] rfl ?_
    refine Sx.st_take hT rfl rfl rfl rfl (Sx.x_fieldAddr hT rfl Try.fa56_2 rfl) ?_
    clear hT; intro a hT
    refine Sx.st_run hT rfl rfl rfl rfl (Sx.x_load1 hT rfl Try.fl3 rfl ((H.blk 1 rfl).nth rfl)) ?_
    clear hT; intro a hT
    refine Sx.st_take hT rfl rfl rfl rfl (Sx.x_fieldAddr hT rfl Try.fa56_2 rfl) ?_
    clear hT; intro a hT
    refine Sx.st_run hT rfl rfl rfl rfl (Sx.x_load1 hT rfl Try.fl3 rfl ((H.blk 0 rfl).nth rfl)) ?_
    clear hT; intro a hT
    refine Sx.st_take hT rfl rfl rfl rfl ((fun w => Sx.x_add w hT rfl rfl rfl rfl)) ?_
    clear hT; intro a hT
    refine Sx.st_take hT rfl rfl rfl rfl (Sx.x_fieldAddr hT rfl Try.fa56_2 rfl) ?_
    clear hT; intro a hT
    refine Sx.st_act hT rfl rfl rfl (Sx.y_store1 hT rfl Try.ti3 rfl rfl rfl (H.blk 1 rfl) rfl) ?_
    rintro w9 ⟨hb, E, _⟩
    replace H := H.setB 1 rfl hb E rfl; clear hb E
    replace hT := hT.keep [7, 12, 11, 4, 10, 9, 5, 3, 2, 0] rfl
    refine Sx.ser_nil ?_
    refine Sx.then_normal (hK13 _ _ ?_)
    clear hK13
    refine wp_seq_k fun K14 hK14 => ?_
    -- region 9 (view.go:132)
    refine Sx.wp_text [(0, .take), (1, .take), (2, .run), (3, .run), (4, .run), (5, .take)] rfl ?_
    refine Sx.st_take hT rfl rfl rfl rfl (Sx.x_move hT rfl rfl) ?_
    clear hT; intro a hT
    refine Sx.st_take hT rfl rfl rfl rfl (Sx.x_fieldAddr hT rfl Try.fa56_3 rfl) ?_
    clear hT; intro a hT
    refine Sx.st_run hT rfl rfl rfl rfl (Sx.x_load1 hT rfl Try.fl46 rfl ((H.blk 0 rfl).nth rfl)) ?_
    clear hT; intro a hT
    refine Sx.st_eff hT rfl rfl rfl rfl (Sx.y_slice1 hT rfl Try.underlying101 Try.ti46 rfl rfl rfl rfl rfl rfl _) ?_
    clear hT; rintro _ w10 ⟨b5, rfl, N⟩ a hT
    replace H := H.new N; clear N
    refine Sx.st_eff hT rfl rfl rfl rfl (Sx.x_append hT rfl rfl Try.underlying101 Try.ti46 rfl (by decide) rfl rfl (H.row 4 rfl) ((H.blk 0 rfl).sv1 rfl) (by simp [Value.oneCell']) (fun h => by cases h) (by unfold maxLen; omega) (by omega)) ?_
    rintro _ w11 ⟨ad11, c11, rfl, hr, E, hown, -⟩
    clear hT; intro a hT
    replace H := H.setR 4 rfl hr E hown rfl; clear hr E hown
    rw [tk_s ho] at H
    refine Sx.st_take hT rfl rfl rfl rfl (Sx.x_assign hT rfl rfl) ?_
    clear hT; intro a hT
    replace hT := hT.keep [4, 7, 12, 11, 10, 9, 5, 3, 2, 0] rfl
    refine Sx.ser_nil ?_
    refine Sx.then_normal (hK14 _ _ ?_)
    clear hK14
    refine wp_seq_k fun K15 hK15 => ?_
    -- region 10 (view.go:133)
    refine Sx.wp_text [(0, .take), (1, .run), (2, .take)] rfl ?_
    refine Sx.st_take hT rfl rfl rfl rfl (Sx.x_fieldAddr hT rfl Try.fa56_2 rfl) ?_
    clear hT; intro a hT
    refine Sx.st_run hT rfl rfl rfl rfl (Sx.x_load1 hT rfl Try.fl3 rfl ((H.blk 1 rfl).nth rfl)) ?_
    clear hT; intro a hT
    refine Sx.st_take hT rfl rfl rfl rfl ((fun w => Sx.x_gt w hT rfl rfl rfl)) ?_
    clear hT; intro a hT
    replace hT := hT.keep [34, 4, 7, 12, 11, 10, 9, 5, 3, 2, 0] rfl
    refine Sx.ser_nil ?_
    refine Sx.then_normal (hK15 _ _ ?_)
    clear hK15
    -- cond 1
    refine Sx.wp_if hT rfl (fun hc16 => ?_) (fun hc16 => ?_)
    · try simp only [decide_eq_true_eq, decide_eq_false_iff_not, Bool.not_eq_true', Bool.not_eq_false', Bool.not_eq_true, Bool.not_eq_false, Bool.and_eq_true, Bool.or_eq_false_iff, beq_iff_eq, bne_iff_ne, Int.not_lt, Int.not_le, ne_eq] at hc16
      have hop : 0 < o.nums := by omega
      refine wp_seq_k fun K17 hK17 => ?_
      -- region 11 (view.go:134)
      refine Sx.wp_text [(0, .take), (1, .run), (2, .take), (3, .run), (4, .run)] rfl ?_
      refine Sx.st_take hT rfl rfl rfl rfl (Sx.x_fieldAddr hT rfl Try.fa56_4 rfl) ?_
      clear hT; intro a hT
      refine Sx.st_run hT rfl rfl rfl rfl (Sx.x_load1 hT rfl Try.fl46 rfl ((H.blk 1 rfl).nth rfl)) ?_
      clear hT; intro a hT
      refine Sx.st_take hT rfl rfl rfl rfl (Sx.x_fieldAddr hT rfl Try.fa56_5 rfl) ?_
      clear hT; intro a hT
      refine Sx.st_run hT rfl rfl rfl rfl (Sx.x_load1 hT rfl Try.fl46 rfl ((H.blk 1 rfl).nth rfl)) ?_
      clear hT; intro a hT
      refine Sx.st_call hT rfl rfl rfl rfl rfl Try.can46 rfl (EndsB_calls an o.least o.most (H.pre [3] rfl rfl)) ?_
      rintro _ w12 ⟨rfl, K⟩
      refine ⟨_, rfl, ?_⟩
      clear hT; intro a hT
      replace H := H.back [3] [0, 1, 2, 4, 5] rfl rfl rfl K rfl; clear K
      replace hT := hT.keep [34, 4, 7, 12, 11, 10, 9, 5, 3, 2, 0] rfl
      refine Sx.ser_nil ?_
      refine Sx.then_normal (hK17 _ _ ?_)
      clear hK17
      -- region 12 (view.go:135)
      refine Sx.wp_text [(0, .take), (1, .run)] rfl ?_
      refine Sx.st_take hT rfl rfl rfl rfl (Sx.x_fieldAddr hT rfl Try.fa56_2 rfl) ?_
      clear hT; intro a hT
      refine Sx.st_act hT rfl rfl rfl (Sx.y_store1 hT rfl Try.ti3 rfl rfl rfl (H.blk 0 rfl) rfl) ?_
      rintro w13 ⟨hb, E, _⟩
      replace H := H.setB 0 rfl hb E rfl; clear hb E
      replace hT := hT.keep [34, 4, 7, 12, 11, 10, 9, 5, 3, 2, 0] rfl
      refine Sx.ser_nil ?_
      refine Sx.block_normal ?_
      refine Sx.then_normal (hK10 _ _ ?_)
      clear hK10
      -- region 13 (view.go:129)
      refine Sx.wp_text [(0, .take), (1, .take)] rfl ?_
      refine Sx.st_take hT rfl rfl rfl rfl ((fun w => Sx.x_add w hT rfl rfl rfl (Sx.wrap64 (by omega)))) ?_
      clear hT; intro a hT
      refine Sx.st_take hT rfl rfl rfl rfl (Sx.x_move hT rfl rfl) ?_
      clear hT; intro a hT
      replace hT := hT.keep [11, 34, 4, 7, 12, 10, 9, 5, 3, 2, 0] rfl
      refine Sx.ser_nil ?_
      refine Sx.then_normal ?_
      exact ⟨(k + 1, wadd ks o.keys, wadd nm o.nums, { endsG an o.least o.most with nums := 1 }, ad11, c11), ⟨by show k + 1 ≤ _; omega, by rw [hks]; exact (tK_snoc ho).symm, by rw [hnm]; exact (tN_snoc ho).symm, by rw [han]; show _ = tA (l.take (k + 1)); rw [tA_snoc ho]; unfold anyS; rw [if_pos hop]⟩, (hT.keep [11, 4, 10, 9, 5, 3, 2, 0] rfl), (H.keep [3, 0, 4, 5] rfl rfl), by show _ - (k + 1) < _ - k; omega⟩
    · try simp only [decide_eq_true_eq, decide_eq_false_iff_not, Bool.not_eq_true', Bool.not_eq_false', Bool.not_eq_true, Bool.not_eq_false, Bool.and_eq_true, Bool.or_eq_false_iff, beq_iff_eq, bne_iff_ne, Int.not_lt, Int.not_le, ne_eq] at hc16
      have hop : ¬ 0 < o.nums := by omega
      refine wp_skip ?_
      refine Sx.block_normal ?_
      refine Sx.then_normal (hK10 _ _ ?_)
      clear hK10
      -- region 13 (view.go:129)
      refine Sx.wp_text [(0, .take), (1, .take)] rfl ?_
      refine Sx.st_take hT rfl rfl rfl rfl ((fun w => Sx.x_add w hT rfl rfl rfl (Sx.wrap64 (by omega)))) ?_
      clear hT; intro a hT
      refine Sx.st_take hT rfl rfl rfl rfl (Sx.x_move hT rfl rfl) ?_
      clear hT; intro a hT
      replace hT := hT.keep [11, 34, 4, 7, 12, 10, 9, 5, 3, 2, 0] rfl
      refine Sx.ser_nil ?_
      refine Sx.then_normal ?_
      exact ⟨(k + 1, wadd ks o.keys, wadd nm o.nums, an, ad11, c11), ⟨by show k + 1 ≤ _; omega, by rw [hks]; exact (tK_snoc ho).symm, by rw [hnm]; exact (tN_snoc ho).symm, by rw [han]; show _ = tA (l.take (k + 1)); rw [tA_snoc ho]; unfold anyS; rw [if_neg hop]⟩, (hT.keep [11, 4, 10, 9, 5, 3, 2, 0] rfl), (H.keep [2, 3, 4, 5] rfl rfl), by show _ - (k + 1) < _ - k; omega⟩
  · try simp only [decide_eq_true_eq, decide_eq_false_iff_not, Bool.not_eq_true', Bool.not_eq_false', Bool.not_eq_true, Bool.not_eq_false, Bool.and_eq_true, Bool.or_eq_false_iff, beq_iff_eq, bne_iff_ne, Int.not_lt, Int.not_le, ne_eq] at hc9
    have hkl : k = l.length := by omega
    rw [hkl, List.take_length] at H hks hnm han
    rw [hkl, show l.length = (l.map G6.sum).length from (List.length_map _).symm] at hT
    rw [show cR 46 1 ad2 l.length c2 = cR 46 1 ad2 (l.map G6.sum).length c2 from by rw [List.length_map]] at H
    refine wp_exit ?_
    refine Sx.then_exit ?_
    refine Sx.then_exit ?_
    refine Sx.block_exit ?_
    refine Sx.then_normal (hK5 _ _ ?_)
    clear hK5
    refine wp_seq_k fun K18 hK18 => ?_
    -- region 14 (view.go:138)
    refine Sx.wp_draws (fun u => Sx.Ext (Sx.One b2) u) [(0, .take), (2, .take), (3, .held), (4, .take), (5, .held), (1, .keep), (6, .take), (7, .keep), (8, .take), (9, .keep), (10, .take), (11, .run)] (by kernel_rfl) (by kernel_rfl) (fun u E _ => ?_)
    replace H := H.pure E; clear E
    have hH : Sx.Ext (Sx.One b2) u u := Sx.Ext.refl _ _
    have Hu := H
    refine Sx.st_take hT rfl rfl rfl rfl (Sx.x_move hT rfl rfl) ?_
    clear hT; intro a hT
    refine Sx.st_take hT rfl rfl rfl rfl (Sx.x_fieldAddr hT rfl Try.fa56_4 rfl) ?_
    clear hT; intro a hT
    refine Sx.st_held hT rfl rfl rfl rfl hH (fun w' h' => Sx.x_load1 hT rfl Try.fl46 rfl ((Hu.heldB 1 rfl h' (Hu.off 1 0 rfl rfl rfl)).nth rfl)) ?_
    clear hT; intro a hT
    refine Sx.st_take hT rfl rfl rfl rfl (Sx.x_fieldAddr hT rfl Try.fa56_5 rfl) ?_
    clear hT; intro a hT
    refine Sx.st_held hT rfl rfl rfl rfl hH (fun w' h' => Sx.x_load1 hT rfl Try.fl46 rfl ((Hu.heldB 1 rfl h' (Hu.off 1 0 rfl rfl rfl)).nth rfl)) ?_
    clear hT; intro a hT
    refine Sx.st_callkeep hT rfl rfl rfl rfl rfl Try.can47 rfl (Sum_calls (l.map G6.sum) ((H.row 2 rfl).ssn rfl) (by rw [List.length_map]; exact hl)) ?_
    rintro _ w14 ⟨rfl, E⟩
    refine ⟨_, rfl, hH.step E, ?_⟩
    replace hH := hH.step E
    clear hT; intro a hT
    replace H := H.pure E; clear E
    refine Sx.st_take hT rfl rfl rfl rfl (Sx.x_fieldAddr hT rfl Try.fa56_3 rfl) ?_
    clear hT; intro a hT
    refine Sx.st_actkeep hT rfl rfl rfl (Sx.y_store1 hT rfl Try.ti46 rfl rfl rfl (H.blk 0 rfl) rfl) ?_
    rintro w15 ⟨hb, E, _⟩
    refine ⟨hH.same E, ?_⟩
    replace hH := hH.same E
    replace H := H.setB 0 rfl hb E rfl; clear hb E
    refine Sx.st_take hT rfl rfl rfl rfl (Sx.x_fieldAddr hT rfl Try.fa56_4 rfl) ?_
    clear hT; intro a hT
    refine Sx.st_actkeep hT rfl rfl rfl (Sx.y_store1 hT rfl Try.ti46 rfl rfl rfl (H.blk 0 rfl) rfl) ?_
    rintro w16 ⟨hb, E, _⟩
    refine ⟨hH.same E, ?_⟩
    replace hH := hH.same E
    replace H := H.setB 0 rfl hb E rfl; clear hb E
    refine Sx.st_take hT rfl rfl rfl rfl (Sx.x_fieldAddr hT rfl Try.fa56_5 rfl) ?_
    clear hT; intro a hT
    refine Sx.st_act hT rfl rfl rfl (Sx.y_store1 hT rfl Try.ti46 rfl rfl rfl (H.blk 0 rfl) rfl) ?_
    rintro w17 ⟨hb, E, _⟩
    replace H := H.setB 0 rfl hb E rfl; clear hb E
    replace hT := hT.keep [12, 11, 4, 10, 9, 5, 3, 2, 0] rfl
    clear Hu hH
    refine Sx.ser_calm ?_
    refine Sx.then_normal (hK18 _ _ ?_)
    clear hK18
    refine wp_seq_k fun K19 hK19 => ?_
    -- region 15 (view.go:139)
    refine Sx.wp_text [(0, .run), (1, .run)] rfl ?_
    refine Sx.st_run hT rfl rfl rfl rfl (Sx.y_loadS hT rfl Try.underlying56 Try.ti56 rfl ((H.blk 0 rfl).seg (k := 6) rfl) (by rfl)) ?_
    clear hT; intro a hT
    refine Sx.st_act hT rfl rfl rfl (Sx.y_storeS hT rfl Try.ti56 rfl rfl rfl rfl rfl (H.blk 3 rfl) rfl) ?_
    rintro w18 ⟨hb, E, _⟩
    replace H := H.setB 3 rfl hb E rfl; clear hb E
    replace hT := hT.keep [12, 11, 4, 10, 9, 5, 3, 2, 0] rfl
    refine Sx.ser_nil ?_
    refine Sx.then_normal (hK19 _ _ ?_)
    clear hK19
    refine wp_ret ?_
    refine Sx.done1 (fn := Try.f24) hT rfl (.cell (hT.get 2 _ rfl) (Sx.run_resS Try.underlying56 Try.ti56 ((H.blk 3 rfl).seg (k := 6) rfl) (by rfl))) ?_
    exact ⟨by unfold totF; rw [← hks, ← hnm, ← han], H.ext⟩

theorem ends_x {x : G6} {p q le mo : Nat} (hz : x.nums = 0 → le = p ∧ mo = q) (hnz : x.nums ≠ 0 → le = x.least ∧ mo = x.most) :
    doesF 4 le p = (endsG x p q).least ∧ doesF 5 mo q = (endsG x p q).most := by
  rw [does4, does5]
  by_cases h : x.nums = 0
  · obtain ⟨rfl, rfl⟩ := hz h
    rw [least_self, most_self]
    unfold endsG
    rw [if_pos h]
    exact ⟨rfl, rfl⟩
  · obtain ⟨rfl, rfl⟩ := hnz h
    unfold endsG
    rw [if_neg h]
    exact ⟨rfl, rfl⟩

theorem xTotal_calls {ad : Option Addr} {c : Nat} (l : List G6) {w : World} (hs : Ss w ad G6.cells 6 l) (hl : l.length ≤ 1000000) : Calls Try.prog 25 #[.slice ad l.length c] w fun e w' => e = .returned (.agg #[.string ⟨(totF l).name.toArray⟩, .int .i64 (totF l).keys, .int .i64 (totF l).nums, .float .f64 (totF l).sum, .float .f64 (totF l).least, .float .f64 (totF l).most]) ∧ Ext No w w' := by
  have R : Ro w No _ := Ro.of fun w' x => hs.ext_no x
  refine Sx.calls_into Try.func25 rfl Try.ntmps25 rfl fun a hT => ?_
  replace hT := hT.keep [0] rfl
  have H : Sx.Hp w (Sx.No) w [] := Sx.Hp.start _ _
  refine wp_seq_k fun K1 hK1 => ?_
  -- region 0 (ref.go:77)
  refine Sx.wp_text [(0, .run)] rfl ?_
  refine Sx.st_eff hT rfl rfl rfl rfl (Sx.y_alloc hT rfl Try.ti59 rfl _) ?_
  clear hT; rintro _ w1 ⟨b1, rfl, N⟩ a hT
  replace H := H.new N; clear N
  replace hT := hT.keep [2, 0] rfl
  refine Sx.ser_nil ?_
  refine Sx.then_normal (hK1 _ _ ?_)
  clear hK1
  refine wp_seq_k fun K2 hK2 => ?_
  -- region 1 (ref.go:78)
  refine Sx.wp_text [(0, .take), (1, .run), (2, .run)] rfl ?_
  refine Sx.st_take hT rfl rfl rfl rfl (Sx.x_bld hT rfl Try.bld59 rfl rfl) ?_
  clear hT; intro a hT
  refine Sx.st_eff hT rfl rfl rfl rfl (Sx.y_alloc hT rfl Try.ti59 rfl _) ?_
  clear hT; rintro _ w2 ⟨b2, rfl, N⟩ a hT
  replace H := H.new N; clear N
  refine Sx.st_act hT rfl rfl rfl (Sx.y_storeS hT rfl Try.ti59 rfl rfl rfl rfl rfl (H.blk 0 rfl) rfl) ?_
  rintro w3 ⟨hb, E, _⟩
  replace H := H.setB 0 rfl hb E rfl; clear hb E
  replace hT := hT.keep [3, 2, 0] rfl
  refine Sx.ser_nil ?_
  refine Sx.then_normal (hK2 _ _ ?_)
  clear hK2
  refine wp_seq_k fun K3 hK3 => ?_
  -- region 2 (ref.go:79)
  refine Sx.wp_text [(0, .take)] rfl ?_
  refine Sx.st_take hT rfl rfl rfl rfl (Sx.x_assign hT rfl rfl) ?_
  clear hT; intro a hT
  replace hT := hT.keep [4, 3, 2, 0] rfl
  refine Sx.ser_nil ?_
  refine Sx.then_normal (hK3 _ _ ?_)
  clear hK3
  refine wp_seq_k fun K4 hK4 => ?_
  -- region 3 (ref.go:80)
  refine Sx.wp_text [(0, .take)] rfl ?_
  refine Sx.st_take hT rfl rfl rfl rfl (Sx.x_assign hT rfl rfl) ?_
  clear hT; intro a hT
  replace hT := hT.keep [5, 4, 3, 2, 0] rfl
  refine Sx.ser_nil ?_
  refine Sx.then_normal (hK4 _ _ ?_)
  clear hK4
  refine wp_seq_k fun K5 hK5 => ?_
  refine wp_seq_k fun K6 hK6 => ?_
  -- region 4 (ref.go:81)
  refine Sx.wp_text [(0, .take)] rfl ?_
  refine Sx.st_take hT rfl rfl rfl rfl (Sx.x_assign hT rfl rfl) ?_
  clear hT; intro a hT
  replace hT := hT.keep [6, 5, 4, 3, 2, 0] rfl
  refine Sx.ser_nil ?_
  refine Sx.then_normal (hK6 _ _ ?_)
  clear hK6
  refine wp_block ?_
  replace H := H.nilR 46 1
  -- loop 0
  refine Sx.wp_loopH (G := Nat × Int × Int × G6 × Bool × Option Addr × Nat) (fun ⟨k, ks, nm, an, mt, ad2, c2⟩ => [(6, .int .i64 (k : Int)), (4, .slice ad2 k c2), (5, .bool mt)]) (fun ⟨k, ks, nm, an, mt, ad2, c2⟩ => [cB b2 (⟨[], ks, nm, 0, an.least, an.most⟩ : G6).cells 59, cR 46 1 ad2 k c2 (((l.take k).map G6.sum).flatMap fcell)]) (fun ⟨k, ks, nm, an, mt, ad2, c2⟩ => k ≤ l.length ∧ ks = tK (l.take k) ∧ nm = tN (l.take k) ∧ an = tA (l.take k) ∧ mt = decide (an.nums ≠ 0)) (fun ⟨k, ks, nm, an, mt, ad2, c2⟩ => l.length - k) (0, 0, 0, gz6, false, none, 0) (hT.keep [6, 4, 5, 3, 2, 0] rfl) (H.keep [1, 0, 2] rfl rfl) (⟨Nat.zero_le _, (by rw [List.take_zero]; rfl), (by rw [List.take_zero]; rfl), (by rw [List.take_zero]; rfl), rfl⟩) ?_
  clear hT H
  rintro ⟨k, ks, nm, an, mt, ad2, c2⟩ a w4 hJ hT H
  replace hT := hT.keep [6, 4, 5, 3, 2, 0] rfl
  replace H := H.keep [0, 1, 2] rfl rfl
  obtain ⟨hk, hks, hnm, han, hmt⟩ := hJ
  refine wp_seq_k fun K7 hK7 => ?_
  refine wp_seq_k fun K8 hK8 => ?_
  -- region 5 (ref.go:81)
  refine Sx.wp_text [(0, .take), (1, .take), (2, .take), (3, .take)] rfl ?_
  refine Sx.st_take hT rfl rfl rfl rfl (Sx.x_move hT rfl rfl) ?_
  clear hT; intro a hT
  refine Sx.st_take hT rfl rfl rfl rfl (Sx.x_move hT rfl rfl) ?_
  clear hT; intro a hT
  refine Sx.st_take hT rfl rfl rfl rfl (Sx.x_len_slice hT rfl rfl Try.underlying28 rfl) ?_
  clear hT; intro a hT
  refine Sx.st_take hT rfl rfl rfl rfl ((fun w => Sx.x_lt w hT rfl rfl rfl)) ?_
  clear hT; intro a hT
  replace hT := hT.keep [11, 6, 4, 5, 3, 2, 0] rfl
  refine Sx.ser_nil ?_
  refine Sx.then_normal (hK8 _ _ ?_)
  clear hK8
  -- cond 0
  refine Sx.wp_if hT rfl (fun hc9 => ?_) (fun hc9 => ?_)
  · try simp only [decide_eq_true_eq, decide_eq_false_iff_not, Bool.not_eq_true', Bool.not_eq_false', Bool.not_eq_true, Bool.not_eq_false, Bool.and_eq_true, Bool.or_eq_false_iff, beq_iff_eq, bne_iff_ne, Int.not_lt, Int.not_le, ne_eq] at hc9
    obtain ⟨o, ho⟩ : ∃ o, l[k]? = some o := ⟨_, List.getElem?_eq_getElem (by omega)⟩
    refine wp_skip ?_
    refine Sx.then_normal (hK7 _ _ ?_)
    clear hK7
    refine wp_seq_k fun K10 hK10 => ?_
    refine wp_block ?_
    refine wp_seq_k fun K11 hK11 => ?_
    -- region 7 (ref.go:82)
    refine Sx.wp_draws (fun u => Sx.Ext (Sx.No) u) [(0, .take), (1, .held), (2, .take), (3, .take), (4, .take), (5, .take), (6, .held), (7, .take), (8, .take), (9, .run)] (by kernel_rfl) (by kernel_rfl) (fun u E _ => ?_)
    replace H := H.pure E; clear E
    have hH : Sx.Ext (Sx.No) u u := Sx.Ext.refl _ _
    have Hu := H
    refine Sx.st_take hT rfl rfl rfl rfl (Sx.x_fieldAddr hT rfl Try.fa59_1 rfl) ?_
    clear hT; intro a hT
    refine Sx.st_held hT rfl rfl rfl rfl hH (fun w' h' => Sx.x_load1 hT rfl Try.fl3 rfl ((Hu.heldB 0 rfl h' Sx.off_No).nth rfl)) ?_
    clear hT; intro a hT
    refine Sx.st_take hT rfl rfl rfl rfl (Sx.x_move hT rfl rfl) ?_
    clear hT; intro a hT
    refine Sx.st_take hT rfl rfl rfl rfl (Sx.x_move hT rfl rfl) ?_
    clear hT; intro a hT
    refine Sx.st_take hT rfl rfl rfl rfl (Sx.x_index (k := k) hT rfl Try.underlying28 Try.ti59 (R.at H.ext).sv rfl rfl (by first | rfl | omega) (by omega)) ?_
    clear hT; intro a hT
    refine Sx.st_take hT rfl rfl rfl rfl (Sx.x_fieldAddr hT rfl Try.fa59_1 rfl) ?_
    clear hT; intro a hT
    refine Sx.st_held hT rfl rfl rfl rfl hH (fun w' h' => Sx.x_load1 hT rfl Try.fl3 rfl (by first | exact ((Hu.heldB 0 rfl h' Sx.off_No).nth rfl) | exact ((Hu.heldB 2 rfl h' Sx.off_No).nth rfl) | exact ((R.at (Hu.ext.step h')).cell (j := 1) G6.len ho rfl) | exact ((R.at (Hu.ext.step h')).cell (j := 2) G6.len ho rfl) | exact ((R.at (Hu.ext.step h')).cell (j := 3) G6.len ho rfl) | exact ((R.at (Hu.ext.step h')).cell (j := 4) G6.len ho rfl) | exact ((R.at (Hu.ext.step h')).cell (j := 5) G6.len ho rfl))) ?_
    clear hT; intro a hT
    refine Sx.st_take hT rfl rfl rfl rfl ((fun w => Sx.x_add w hT rfl rfl rfl rfl)) ?_
    clear hT; intro a hT
    refine Sx.st_take hT rfl rfl rfl rfl (Sx.x_fieldAddr hT rfl Try.fa59_1 rfl) ?_
    clear hT; intro a hT
    refine Sx.st_act hT rfl rfl rfl (Sx.y_store1 hT rfl Try.ti3 rfl rfl rfl (H.blk 0 rfl) rfl) ?_
    rintro w5 ⟨hb, E, _⟩
    replace H := H.setB 0 rfl hb E rfl; clear hb E
    replace hT := hT.keep [11, 6, 4, 5, 3, 2, 0] rfl
    clear Hu hH
    refine Sx.ser_calm ?_
    refine Sx.then_normal (hK11 _ _ ?_)
    clear hK11
    refine wp_seq_k fun K12 hK12 => ?_
    -- region 8 (ref.go:83)
    refine Sx.wp_draws (fun u => Sx.Ext (Sx.No) u) [(0, .take), (1, .held), (2, .take), (3, .take), (4, .take), (5, .take), (6, .held), (7, .take), (8, .take), (9, .run)] (by kernel_rfl) (by kernel_rfl) (fun u E _ => ?_)
    replace H := H.pure E; clear E
    have hH : Sx.Ext (Sx.No) u u := Sx.Ext.refl _ _
    have Hu := H
    refine Sx.st_take hT rfl rfl rfl rfl (Sx.x_fieldAddr hT rfl Try.fa59_2 rfl) ?_
    clear hT; intro a hT
    refine Sx.st_held hT rfl rfl rfl rfl hH (fun w' h' => Sx.x_load1 hT rfl Try.fl3 rfl ((Hu.heldB 0 rfl h' Sx.off_No).nth rfl)) ?_
    clear hT; intro a hT
    refine Sx.st_take hT rfl rfl rfl rfl (Sx.x_move hT rfl rfl) ?_
    clear hT; intro a hT
    refine Sx.st_take hT rfl rfl rfl rfl (Sx.x_move hT rfl rfl) ?_
    clear hT; intro a hT
    refine Sx.st_take hT rfl rfl rfl rfl (Sx.x_index (k := k) hT rfl Try.underlying28 Try.ti59 (R.at H.ext).sv rfl rfl (by first | rfl | omega) (by omega)) ?_
    clear hT; intro a hT
    refine Sx.st_take hT rfl rfl rfl rfl (Sx.x_fieldAddr hT rfl Try.fa59_2 rfl) ?_
    clear hT; intro a hT
    refine Sx.st_held hT rfl rfl rfl rfl hH (fun w' h' => Sx.x_load1 hT rfl Try.fl3 rfl (by first | exact ((Hu.heldB 0 rfl h' Sx.off_No).nth rfl) | exact ((Hu.heldB 2 rfl h' Sx.off_No).nth rfl) | exact ((R.at (Hu.ext.step h')).cell (j := 1) G6.len ho rfl) | exact ((R.at (Hu.ext.step h')).cell (j := 2) G6.len ho rfl) | exact ((R.at (Hu.ext.step h')).cell (j := 3) G6.len ho rfl) | exact ((R.at (Hu.ext.step h')).cell (j := 4) G6.len ho rfl) | exact ((R.at (Hu.ext.step h')).cell (j := 5) G6.len ho rfl))) ?_
    clear hT; intro a hT
    refine Sx.st_take hT rfl rfl rfl rfl ((fun w => Sx.x_add w hT rfl rfl rfl rfl)) ?_
    clear hT; intro a hT
    refine Sx.st_take hT rfl rfl rfl rfl (Sx.x_fieldAddr hT rfl Try.fa59_2 rfl) ?_
    clear hT; intro a hT
    refine Sx.st_act hT rfl rfl rfl (Sx.y_store1 hT rfl Try.ti3 rfl rfl rfl (H.blk 0 rfl) rfl) ?_
    rintro w6 ⟨hb, E, _⟩
    replace H := H.setB 0 rfl hb E rfl; clear hb E
    replace hT := hT.keep [11, 6, 4, 5, 3, 2, 0] rfl
    clear Hu hH
    refine Sx.ser_calm ?_
    refine Sx.then_normal (hK12 _ _ ?_)
    clear hK12
    refine wp_seq_k fun K13 hK13 => ?_
    -- region 9 (ref.go:84)
    refine Sx.wp_text [(0, .take), (1, .take), (2, .take), (3, .take), (4, .take), (5, .run), (6, .run), (7, .run), (8, .take)] rfl ?_
    refine Sx.st_take hT rfl rfl rfl rfl (Sx.x_move hT rfl rfl) ?_
    clear hT; intro a hT
    refine Sx.st_take hT rfl rfl rfl rfl (Sx.x_move hT rfl rfl) ?_
    clear hT; intro a hT
    refine Sx.st_take hT rfl rfl rfl rfl (Sx.x_move hT rfl rfl) ?_
    clear hT; intro a hT
    refine Sx.st_take hT rfl rfl rfl rfl (Sx.x_index (k := k) hT rfl Try.underlying28 Try.ti59 (R.at H.ext).sv rfl rfl (by first | rfl | omega) (by omega)) ?_
    clear hT; intro a hT
    refine Sx.st_take hT rfl rfl rfl rfl (Sx.x_fieldAddr hT rfl Try.fa59_3 rfl) ?_
    clear hT; intro a hT
    refine Sx.st_run hT rfl rfl rfl rfl (Sx.x_load1 hT rfl Try.fl46 rfl (by first | exact ((H.blk 0 rfl).nth rfl) | exact ((H.blk 2 rfl).nth rfl) | exact ((R.at H.ext).cell (j := 1) G6.len ho rfl) | exact ((R.at H.ext).cell (j := 2) G6.len ho rfl) | exact ((R.at H.ext).cell (j := 3) G6.len ho rfl) | exact ((R.at H.ext).cell (j := 4) G6.len ho rfl) | exact ((R.at H.ext).cell (j := 5) G6.len ho rfl))) ?_
    clear hT; intro a hT
    refine Sx.st_eff hT rfl rfl rfl rfl (Sx.y_slice1 hT rfl Try.underlying101 Try.ti46 rfl rfl rfl rfl rfl rfl _) ?_
    clear hT; rintro _ w7 ⟨b3, rfl, N⟩ a hT
    replace H := H.new N; clear N
    refine Sx.st_eff hT rfl rfl rfl rfl (Sx.x_append hT rfl rfl Try.underlying101 Try.ti46 rfl (by decide) rfl rfl (H.row 2 rfl) ((H.blk 0 rfl).sv1 rfl) (by simp [Value.oneCell']) (fun h => by cases h) (by unfold maxLen; omega) (by omega)) ?_
    rintro _ w8 ⟨ad8, c8, rfl, hr, E, hown, -⟩
    clear hT; intro a hT
    replace H := H.setR 2 rfl hr E hown rfl; clear hr E hown
    rw [tk_s ho] at H
    refine Sx.st_take hT rfl rfl rfl rfl (Sx.x_assign hT rfl rfl) ?_
    clear hT; intro a hT
    replace hT := hT.keep [4, 11, 6, 5, 3, 2, 0] rfl
    refine Sx.ser_nil ?_
    refine Sx.then_normal (hK13 _ _ ?_)
    clear hK13
    refine wp_seq_k fun K14 hK14 => ?_
    refine wp_seq_k fun K15 hK15 => ?_
    -- region 10 (ref.go:85)
    refine Sx.wp_text [(0, .take), (1, .take), (2, .take), (3, .take), (4, .run), (5, .take)] rfl ?_
    refine Sx.st_take hT rfl rfl rfl rfl (Sx.x_move hT rfl rfl) ?_
    clear hT; intro a hT
    refine Sx.st_take hT rfl rfl rfl rfl (Sx.x_move hT rfl rfl) ?_
    clear hT; intro a hT
    refine Sx.st_take hT rfl rfl rfl rfl (Sx.x_index (k := k) hT rfl Try.underlying28 Try.ti59 (R.at H.ext).sv rfl rfl (by first | rfl | omega) (by omega)) ?_
    clear hT; intro a hT
    refine Sx.st_take hT rfl rfl rfl rfl (Sx.x_fieldAddr hT rfl Try.fa59_2 rfl) ?_
    clear hT; intro a hT
    refine Sx.st_run hT rfl rfl rfl rfl (Sx.x_load1 hT rfl Try.fl3 rfl (by first | exact ((H.blk 0 rfl).nth rfl) | exact ((H.blk 1 rfl).nth rfl) | exact ((H.blk 3 rfl).nth rfl) | exact ((R.at H.ext).cell (j := 1) G6.len ho rfl) | exact ((R.at H.ext).cell (j := 2) G6.len ho rfl) | exact ((R.at H.ext).cell (j := 3) G6.len ho rfl) | exact ((R.at H.ext).cell (j := 4) G6.len ho rfl) | exact ((R.at H.ext).cell (j := 5) G6.len ho rfl))) ?_
    clear hT; intro a hT
    refine Sx.st_take hT rfl rfl rfl rfl ((fun w => Sx.x_le w hT rfl rfl rfl)) ?_
    clear hT; intro a hT
    replace hT := hT.keep [45, 4, 11, 6, 5, 3, 2, 0] rfl
    refine Sx.ser_nil ?_
    refine Sx.then_normal (hK15 _ _ ?_)
    clear hK15
    -- cond 1
    refine Sx.wp_if hT rfl (fun hc16 => ?_) (fun hc16 => ?_)
    · try simp only [decide_eq_true_eq, decide_eq_false_iff_not, Bool.not_eq_true', Bool.not_eq_false', Bool.not_eq_true, Bool.not_eq_false, Bool.and_eq_true, Bool.or_eq_false_iff, beq_iff_eq, bne_iff_ne, Int.not_lt, Int.not_le, ne_eq] at hc16
      have hop : ¬ 0 < o.nums := by omega
      refine wp_exit ?_
      refine Sx.then_exit ?_
      refine Sx.block_exit ?_
      refine Sx.then_normal (hK10 _ _ ?_)
      clear hK10
      -- region 6 (ref.go:81)
      refine Sx.wp_text [(0, .take), (1, .take), (2, .take)] rfl ?_
      refine Sx.st_take hT rfl rfl rfl rfl (Sx.x_move hT rfl rfl) ?_
      clear hT; intro a hT
      refine Sx.st_take hT rfl rfl rfl rfl ((fun w => Sx.x_add w hT rfl rfl rfl (Sx.wrap64 (by omega)))) ?_
      clear hT; intro a hT
      refine Sx.st_take hT rfl rfl rfl rfl (Sx.x_assign hT rfl rfl) ?_
      clear hT; intro a hT
      replace hT := hT.keep [6, 45, 4, 11, 5, 3, 2, 0] rfl
      refine Sx.ser_nil ?_
      refine Sx.then_normal ?_
      skip
      exact ⟨(k + 1, wadd ks o.keys, wadd nm o.nums, an, mt, ad8, c8), ⟨by show k + 1 ≤ _; omega, by rw [hks]; exact (tK_snoc ho).symm, by rw [hnm]; exact (tN_snoc ho).symm, by rw [han]; show _ = tA (l.take (k + 1)); rw [tA_snoc ho]; unfold anyS; rw [if_neg hop], hmt⟩, (hT.keep [6, 4, 5, 3, 2, 0] rfl), (H.keep [1, 2, 3] rfl rfl), by show _ - (k + 1) < _ - k; omega⟩
    · try simp only [decide_eq_true_eq, decide_eq_false_iff_not, Bool.not_eq_true', Bool.not_eq_false', Bool.not_eq_true, Bool.not_eq_false, Bool.and_eq_true, Bool.or_eq_false_iff, beq_iff_eq, bne_iff_ne, Int.not_lt, Int.not_le, ne_eq] at hc16
      have hop : 0 < o.nums := by omega
      refine wp_skip ?_
      refine Sx.then_normal (hK14 _ _ ?_)
      clear hK14
      refine wp_seq_k fun K17 hK17 => ?_
      refine Sx.wp_join (G := Nat × Nat) (fun ⟨le, mo⟩ => []) (fun ⟨le, mo⟩ => [cB b2 (⟨[], (wadd ks o.keys), (wadd nm o.nums), 0, le, mo⟩ : G6).cells 59]) (fun ⟨le, mo⟩ => (an.nums = 0 → le = o.least ∧ mo = o.most) ∧ (an.nums ≠ 0 → le = an.least ∧ mo = an.most)) (hT.keep [45, 4, 11, 6, 5, 3, 2, 0] rfl) (H.keep [0, 2, 3] rfl rfl) hK17 ?_ ?_
      · clear hT H hK17
        rintro ⟨le, mo⟩ a w9 hJ hT H
        replace hT := hT.keep [45, 4, 11, 6, 5, 3, 2, 0] rfl
        replace H := H.keep [0, 1, 2, 3] rfl rfl
        obtain ⟨hz, hnz⟩ := hJ
        obtain ⟨hx4, hx5⟩ := ends_x hz hnz
        refine wp_seq_k fun K18 hK18 => ?_
        -- region 13 (ref.go:91)
        refine Sx.wp_text [(0, .take)] rfl ?_
        refine Sx.st_take hT rfl rfl rfl rfl (Sx.x_assign hT rfl rfl) ?_
        clear hT; intro a hT
        replace hT := hT.keep [5, 45, 4, 11, 6, 3, 2, 0] rfl
        refine Sx.ser_nil ?_
        refine Sx.then_normal (hK18 _ _ ?_)
        clear hK18
        refine wp_seq_k fun K19 hK19 => ?_
        -- region 14 (ref.go:92)
        refine Sx.wp_draws (fun u => Sx.Ext (Sx.No) u) [(0, .take), (1, .held), (2, .take), (3, .take), (4, .take), (5, .take), (6, .held), (7, .run), (8, .take), (9, .run)] (by kernel_rfl) (by kernel_rfl) (fun u E _ => ?_)
        replace H := H.pure E; clear E
        have hH : Sx.Ext (Sx.No) u u := Sx.Ext.refl _ _
        have Hu := H
        refine Sx.st_take hT rfl rfl rfl rfl (Sx.x_fieldAddr hT rfl Try.fa59_4 rfl) ?_
        clear hT; intro a hT
        refine Sx.st_held hT rfl rfl rfl rfl hH (fun w' h' => Sx.x_load1 hT rfl Try.fl46 rfl ((Hu.heldB 0 rfl h' Sx.off_No).nth rfl)) ?_
        clear hT; intro a hT
        refine Sx.st_take hT rfl rfl rfl rfl (Sx.x_move hT rfl rfl) ?_
        clear hT; intro a hT
        refine Sx.st_take hT rfl rfl rfl rfl (Sx.x_move hT rfl rfl) ?_
        clear hT; intro a hT
        refine Sx.st_take hT rfl rfl rfl rfl (Sx.x_index (k := k) hT rfl Try.underlying28 Try.ti59 (R.at H.ext).sv rfl rfl (by first | rfl | omega) (by omega)) ?_
        clear hT; intro a hT
        refine Sx.st_take hT rfl rfl rfl rfl (Sx.x_fieldAddr hT rfl Try.fa59_4 rfl) ?_
        clear hT; intro a hT
        refine Sx.st_held hT rfl rfl rfl rfl hH (fun w' h' => Sx.x_load1 hT rfl Try.fl46 rfl (by first | exact ((Hu.heldB 0 rfl h' Sx.off_No).nth rfl) | exact ((Hu.heldB 1 rfl h' Sx.off_No).nth rfl) | exact ((Hu.heldB 3 rfl h' Sx.off_No).nth rfl) | exact ((R.at (Hu.ext.step h')).cell (j := 1) G6.len ho rfl) | exact ((R.at (Hu.ext.step h')).cell (j := 2) G6.len ho rfl) | exact ((R.at (Hu.ext.step h')).cell (j := 3) G6.len ho rfl) | exact ((R.at (Hu.ext.step h')).cell (j := 4) G6.len ho rfl) | exact ((R.at (Hu.ext.step h')).cell (j := 5) G6.len ho rfl))) ?_
        clear hT; intro a hT
        refine Sx.st_call hT rfl rfl rfl rfl rfl Try.can48 rfl (Does_calls _ _ _ _) ?_
        rintro _ w10 ⟨rfl, E⟩
        refine ⟨_, rfl, ?_⟩
        clear hT; intro a hT
        replace H := H.pure E; clear E
        refine Sx.st_take hT rfl rfl rfl rfl (Sx.x_fieldAddr hT rfl Try.fa59_4 rfl) ?_
        clear hT; intro a hT
        refine Sx.st_act hT rfl rfl rfl (Sx.y_store1 hT rfl Try.ti46 rfl rfl rfl (H.blk 0 rfl) rfl) ?_
        rintro w11 ⟨hb, E, _⟩
        replace H := H.setB 0 rfl hb E rfl; clear hb E
        replace hT := hT.keep [5, 45, 4, 11, 6, 3, 2, 0] rfl
        clear Hu hH
        refine Sx.ser_calm ?_
        refine Sx.then_normal (hK19 _ _ ?_)
        clear hK19
        -- region 15 (ref.go:93)
        refine Sx.wp_draws (fun u => Sx.Ext (Sx.No) u) [(0, .take), (1, .held), (2, .take), (3, .take), (4, .take), (5, .take), (6, .held), (7, .run), (8, .take), (9, .run)] (by kernel_rfl) (by kernel_rfl) (fun u E _ => ?_)
        replace H := H.pure E; clear E
        have hH : Sx.Ext (Sx.No) u u := Sx.Ext.refl _ _
        have Hu := H
        refine Sx.st_take hT rfl rfl rfl rfl (Sx.x_fieldAddr hT rfl Try.fa59_5 rfl) ?_
        clear hT; intro a hT
        refine Sx.st_held hT rfl rfl rfl rfl hH (fun w' h' => Sx.x_load1 hT rfl Try.fl46 rfl ((Hu.heldB 0 rfl h' Sx.off_No).nth rfl)) ?_
        clear hT; intro a hT
        refine Sx.st_take hT rfl rfl rfl rfl (Sx.x_move hT rfl rfl) ?_
        clear hT; intro a hT
        refine Sx.st_take hT rfl rfl rfl rfl (Sx.x_move hT rfl rfl) ?_
        clear hT; intro a hT
        refine Sx.st_take hT rfl rfl rfl rfl (Sx.x_index (k := k) hT rfl Try.underlying28 Try.ti59 (R.at H.ext).sv rfl rfl (by first | rfl | omega) (by omega)) ?_
        clear hT; intro a hT
        refine Sx.st_take hT rfl rfl rfl rfl (Sx.x_fieldAddr hT rfl Try.fa59_5 rfl) ?_
        clear hT; intro a hT
        refine Sx.st_held hT rfl rfl rfl rfl hH (fun w' h' => Sx.x_load1 hT rfl Try.fl46 rfl (by first | exact ((Hu.heldB 0 rfl h' Sx.off_No).nth rfl) | exact ((Hu.heldB 1 rfl h' Sx.off_No).nth rfl) | exact ((Hu.heldB 3 rfl h' Sx.off_No).nth rfl) | exact ((R.at (Hu.ext.step h')).cell (j := 1) G6.len ho rfl) | exact ((R.at (Hu.ext.step h')).cell (j := 2) G6.len ho rfl) | exact ((R.at (Hu.ext.step h')).cell (j := 3) G6.len ho rfl) | exact ((R.at (Hu.ext.step h')).cell (j := 4) G6.len ho rfl) | exact ((R.at (Hu.ext.step h')).cell (j := 5) G6.len ho rfl))) ?_
        clear hT; intro a hT
        refine Sx.st_call hT rfl rfl rfl rfl rfl Try.can48 rfl (Does_calls _ _ _ _) ?_
        rintro _ w12 ⟨rfl, E⟩
        refine ⟨_, rfl, ?_⟩
        clear hT; intro a hT
        replace H := H.pure E; clear E
        refine Sx.st_take hT rfl rfl rfl rfl (Sx.x_fieldAddr hT rfl Try.fa59_5 rfl) ?_
        clear hT; intro a hT
        refine Sx.st_act hT rfl rfl rfl (Sx.y_store1 hT rfl Try.ti46 rfl rfl rfl (H.blk 0 rfl) rfl) ?_
        rintro w13 ⟨hb, E, _⟩
        replace H := H.setB 0 rfl hb E rfl; clear hb E
        replace hT := hT.keep [5, 45, 4, 11, 6, 3, 2, 0] rfl
        clear Hu hH
        refine Sx.ser_calm ?_
        refine Sx.block_normal ?_
        refine Sx.then_normal (hK10 _ _ ?_)
        clear hK10
        -- region 6 (ref.go:81)
        refine Sx.wp_text [(0, .take), (1, .take), (2, .take)] rfl ?_
        refine Sx.st_take hT rfl rfl rfl rfl (Sx.x_move hT rfl rfl) ?_
        clear hT; intro a hT
        refine Sx.st_take hT rfl rfl rfl rfl ((fun w => Sx.x_add w hT rfl rfl rfl (Sx.wrap64 (by omega)))) ?_
        clear hT; intro a hT
        refine Sx.st_take hT rfl rfl rfl rfl (Sx.x_assign hT rfl rfl) ?_
        clear hT; intro a hT
        replace hT := hT.keep [6, 5, 45, 4, 11, 3, 2, 0] rfl
        refine Sx.ser_nil ?_
        refine Sx.then_normal ?_
        rw [hx4, hx5] at H
        exact ⟨(k + 1, wadd ks o.keys, wadd nm o.nums, { endsG an o.least o.most with nums := 1 }, true, ad8, c8), ⟨by show k + 1 ≤ _; omega, by rw [hks]; exact (tK_snoc ho).symm, by rw [hnm]; exact (tN_snoc ho).symm, by rw [han]; show _ = tA (l.take (k + 1)); rw [tA_snoc ho]; unfold anyS; rw [if_pos hop], rfl⟩, (hT.keep [6, 4, 5, 3, 2, 0] rfl), (H.keep [0, 2, 3] rfl rfl), by show _ - (k + 1) < _ - k; omega⟩
      · clear hK17; intro hJK17
        refine wp_seq_k fun K20 hK20 => ?_
        -- region 11 (ref.go:88)
        refine Sx.wp_text [(0, .take), (1, .take)] rfl ?_
        refine Sx.st_take hT rfl rfl rfl rfl (Sx.x_move hT rfl rfl) ?_
        clear hT; intro a hT
        refine Sx.st_take hT rfl rfl rfl rfl (Sx.x_not hT rfl rfl) ?_
        clear hT; intro a hT
        replace hT := hT.keep [47, 45, 4, 11, 6, 5, 3, 2, 0] rfl
        refine Sx.ser_nil ?_
        refine Sx.then_normal (hK20 _ _ ?_)
        clear hK20
        -- cond 2
        refine Sx.wp_if hT rfl (fun hc21 => ?_) (fun hc21 => ?_)
        · try simp only [decide_eq_true_eq, decide_eq_false_iff_not, Bool.not_eq_true', Bool.not_eq_false', Bool.not_eq_true, Bool.not_eq_false, Bool.and_eq_true, Bool.or_eq_false_iff, beq_iff_eq, bne_iff_ne, Int.not_lt, Int.not_le, ne_eq] at hc21
          have hn0 : an.nums = 0 := by simpa [hmt] using hc21
          -- region 12 (ref.go:89)
          refine Sx.wp_draws (fun u => Sx.Ext (Sx.One b2) u) [(0, .take), (1, .take), (2, .take), (3, .take), (4, .held), (5, .take), (6, .take), (7, .take), (8, .take), (9, .held), (10, .take), (11, .keep), (12, .take), (13, .run)] (by kernel_rfl) (by kernel_rfl) (fun u E _ => ?_)
          replace H := H.pure E; clear E
          have hH : Sx.Ext (Sx.One b2) u u := Sx.Ext.refl _ _
          have Hu := H
          refine Sx.st_take hT rfl rfl rfl rfl (Sx.x_move hT rfl rfl) ?_
          clear hT; intro a hT
          refine Sx.st_take hT rfl rfl rfl rfl (Sx.x_move hT rfl rfl) ?_
          clear hT; intro a hT
          refine Sx.st_take hT rfl rfl rfl rfl (Sx.x_index (k := k) hT rfl Try.underlying28 Try.ti59 (R.at H.ext).sv rfl rfl (by first | rfl | omega) (by omega)) ?_
          clear hT; intro a hT
          refine Sx.st_take hT rfl rfl rfl rfl (Sx.x_fieldAddr hT rfl Try.fa59_4 rfl) ?_
          clear hT; intro a hT
          refine Sx.st_held hT rfl rfl rfl rfl hH (fun w' h' => Sx.x_load1 hT rfl Try.fl46 rfl (by first | exact ((Hu.heldB 0 rfl h' (Hu.off 0 1 rfl rfl rfl)).nth rfl) | exact ((Hu.heldB 1 rfl h' (Hu.off 1 1 rfl rfl rfl)).nth rfl) | exact ((Hu.heldB 3 rfl h' (Hu.off 3 1 rfl rfl rfl)).nth rfl) | exact ((R.at (Hu.extT 1 rfl h')).cell (j := 1) G6.len ho rfl) | exact ((R.at (Hu.extT 1 rfl h')).cell (j := 2) G6.len ho rfl) | exact ((R.at (Hu.extT 1 rfl h')).cell (j := 3) G6.len ho rfl) | exact ((R.at (Hu.extT 1 rfl h')).cell (j := 4) G6.len ho rfl) | exact ((R.at (Hu.extT 1 rfl h')).cell (j := 5) G6.len ho rfl))) ?_
          clear hT; intro a hT
          refine Sx.st_take hT rfl rfl rfl rfl (Sx.x_move hT rfl rfl) ?_
          clear hT; intro a hT
          refine Sx.st_take hT rfl rfl rfl rfl (Sx.x_move hT rfl rfl) ?_
          clear hT; intro a hT
          refine Sx.st_take hT rfl rfl rfl rfl (Sx.x_index (k := k) hT rfl Try.underlying28 Try.ti59 (R.at H.ext).sv rfl rfl (by first | rfl | omega) (by omega)) ?_
          clear hT; intro a hT
          refine Sx.st_take hT rfl rfl rfl rfl (Sx.x_fieldAddr hT rfl Try.fa59_5 rfl) ?_
          clear hT; intro a hT
          refine Sx.st_held hT rfl rfl rfl rfl hH (fun w' h' => Sx.x_load1 hT rfl Try.fl46 rfl (by first | exact ((Hu.heldB 0 rfl h' (Hu.off 0 1 rfl rfl rfl)).nth rfl) | exact ((Hu.heldB 1 rfl h' (Hu.off 1 1 rfl rfl rfl)).nth rfl) | exact ((Hu.heldB 3 rfl h' (Hu.off 3 1 rfl rfl rfl)).nth rfl) | exact ((R.at (Hu.extT 1 rfl h')).cell (j := 1) G6.len ho rfl) | exact ((R.at (Hu.extT 1 rfl h')).cell (j := 2) G6.len ho rfl) | exact ((R.at (Hu.extT 1 rfl h')).cell (j := 3) G6.len ho rfl) | exact ((R.at (Hu.extT 1 rfl h')).cell (j := 4) G6.len ho rfl) | exact ((R.at (Hu.extT 1 rfl h')).cell (j := 5) G6.len ho rfl))) ?_
          clear hT; intro a hT
          refine Sx.st_take hT rfl rfl rfl rfl (Sx.x_fieldAddr hT rfl Try.fa59_4 rfl) ?_
          clear hT; intro a hT
          refine Sx.st_actkeep hT rfl rfl rfl (Sx.y_store1 hT rfl Try.ti46 rfl rfl rfl (H.blk 1 rfl) rfl) ?_
          rintro w14 ⟨hb, E, _⟩
          refine ⟨hH.same E, ?_⟩
          replace hH := hH.same E
          replace H := H.setB 1 rfl hb E rfl; clear hb E
          refine Sx.st_take hT rfl rfl rfl rfl (Sx.x_fieldAddr hT rfl Try.fa59_5 rfl) ?_
          clear hT; intro a hT
          refine Sx.st_act hT rfl rfl rfl (Sx.y_store1 hT rfl Try.ti46 rfl rfl rfl (H.blk 1 rfl) rfl) ?_
          rintro w15 ⟨hb, E, _⟩
          replace H := H.setB 1 rfl hb E rfl; clear hb E
          replace hT := hT.keep [47, 45, 4, 11, 6, 5, 3, 2, 0] rfl
          clear Hu hH
          refine Sx.ser_calm ?_
          exact Sx.then_normal (hJK17 (o.least, o.most) _ _ ⟨fun _ => ⟨rfl, rfl⟩, fun h9 => absurd hn0 h9⟩ (hT.keep [45, 4, 11, 6, 5, 3, 2, 0] rfl) (H.keep [1, 0, 2, 3] rfl rfl))
        · try simp only [decide_eq_true_eq, decide_eq_false_iff_not, Bool.not_eq_true', Bool.not_eq_false', Bool.not_eq_true, Bool.not_eq_false, Bool.and_eq_true, Bool.or_eq_false_iff, beq_iff_eq, bne_iff_ne, Int.not_lt, Int.not_le, ne_eq] at hc21
          have hn0 : an.nums ≠ 0 := by simpa [hmt] using hc21
          refine wp_skip ?_
          exact Sx.then_normal (hJK17 (an.least, an.most) _ _ ⟨fun h9 => absurd h9 hn0, fun _ => ⟨rfl, rfl⟩⟩ (hT.keep [45, 4, 11, 6, 5, 3, 2, 0] rfl) (H.keep [1, 0, 2, 3] rfl rfl))
  · try simp only [decide_eq_true_eq, decide_eq_false_iff_not, Bool.not_eq_true', Bool.not_eq_false', Bool.not_eq_true, Bool.not_eq_false, Bool.and_eq_true, Bool.or_eq_false_iff, beq_iff_eq, bne_iff_ne, Int.not_lt, Int.not_le, ne_eq] at hc9
    have hkl : k = l.length := by omega
    rw [hkl, List.take_length] at H hks hnm han
    rw [hkl, show l.length = (l.map G6.sum).length from (List.length_map _).symm] at hT
    rw [show cR 46 1 ad2 l.length c2 = cR 46 1 ad2 (l.map G6.sum).length c2 from by rw [List.length_map]] at H
    refine wp_exit ?_
    refine Sx.then_exit ?_
    refine Sx.then_exit ?_
    refine Sx.block_exit ?_
    refine Sx.then_normal (hK5 _ _ ?_)
    clear hK5
    refine wp_seq_k fun K22 hK22 => ?_
    -- region 16 (ref.go:95)
    refine Sx.wp_text [(0, .take), (1, .run), (2, .take), (3, .run)] rfl ?_
    refine Sx.st_take hT rfl rfl rfl rfl (Sx.x_move hT rfl rfl) ?_
    clear hT; intro a hT
    refine Sx.st_call hT rfl rfl rfl rfl rfl Try.can49 rfl (xSum_calls (l.map G6.sum) ((H.row 1 rfl).ssn rfl) (by rw [List.length_map]; exact hl)) ?_
    rintro _ w16 ⟨rfl, E⟩
    refine ⟨_, rfl, ?_⟩
    clear hT; intro a hT
    replace H := H.pure E; clear E
    refine Sx.st_take hT rfl rfl rfl rfl (Sx.x_fieldAddr hT rfl Try.fa59_3 rfl) ?_
    clear hT; intro a hT
    refine Sx.st_act hT rfl rfl rfl (Sx.y_store1 hT rfl Try.ti46 rfl rfl rfl (H.blk 0 rfl) rfl) ?_
    rintro w17 ⟨hb, E, _⟩
    replace H := H.setB 0 rfl hb E rfl; clear hb E
    replace hT := hT.keep [11, 6, 4, 5, 3, 2, 0] rfl
    refine Sx.ser_nil ?_
    refine Sx.then_normal (hK22 _ _ ?_)
    clear hK22
    refine wp_seq_k fun K23 hK23 => ?_
    -- region 17 (ref.go:96)
    refine Sx.wp_text [(0, .run), (1, .run)] rfl ?_
    refine Sx.st_run hT rfl rfl rfl rfl (Sx.y_loadS hT rfl Try.underlying59 Try.ti59 rfl ((H.blk 0 rfl).seg (k := 6) rfl) (by rfl)) ?_
    clear hT; intro a hT
    refine Sx.st_act hT rfl rfl rfl (Sx.y_storeS hT rfl Try.ti59 rfl rfl rfl rfl rfl (H.blk 2 rfl) rfl) ?_
    rintro w18 ⟨hb, E, _⟩
    replace H := H.setB 2 rfl hb E rfl; clear hb E
    replace hT := hT.keep [11, 6, 4, 5, 3, 2, 0] rfl
    refine Sx.ser_nil ?_
    refine Sx.then_normal (hK23 _ _ ?_)
    clear hK23
    refine wp_ret ?_
    refine Sx.done1 (fn := Try.f25) hT rfl (.cell (hT.get 2 _ rfl) (Sx.run_resS Try.underlying59 Try.ti59 ((H.blk 2 rfl).seg (k := 6) rfl) (by rfl))) ?_
    exact ⟨by unfold totF; rw [← hks, ← hnm, ← han], H.ext⟩

end Go.Proofs.Ytakjfnckbidbcaa
