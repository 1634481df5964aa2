/- Walks: what each key is now. -/
import Derived.Test.YtakjfnckbidbcaaV7
set_option linter.unusedSimpArgs false
set_option linter.unusedVariables false
namespace Go.Proofs.Ytakjfnckbidbcaa
open Sx
theorem Try.ti77 : Sx.TI Try.prog 77 (.map none) 1 8 := .mk' (by kernel_rfl)
theorem Try.ti79 : Sx.TI Try.prog 79 (.agg #[.int .i64 0, .map none, .int .i64 0, .int .i64 0, .int .i64 0]) 5 40 := .mk' (by kernel_rfl)
theorem Try.fa79_2 : Sx.FA Try.prog 79 2 2 := ⟨_, _, _, _, _, Try.underlying79, rfl, rfl, Try.ti35, by decide⟩
theorem Try.bld79 : Sx.Bld Try.prog 79 #[.int .i64 0, .map none, .int .i64 0, .int .i64 0, .int .i64 0] #[(0, 1), (1, 1), (2, 3)] := ⟨_, _, _, _, Try.ti79, rfl, Try.underlying79, fun w => by simp [Sx.placesOf, Sx.run_sizeOf Try.ti3, Sx.run_sizeOf Try.ti35, Sx.run_sizeOf Try.ti77]⟩
theorem Try.can8 : Sx.Can Try.prog 8 := ⟨_, Try.func8, by kernel_rfl, rfl⟩
theorem Try.can17 : Sx.Can Try.prog 17 := ⟨_, Try.func17, by kernel_rfl, rfl⟩
def Wt.val (x : Wt) : Value := .agg #[.int .i64 x.v.k, .float .f64 x.v.num, .string ⟨x.v.tx.toArray⟩]
abbrev tw (L : List Wt) : DataW Value := tab (fun x => slit (Wt.key x)) Wt.val L
def vwc (cut : Int) (b : Nat) (h : Stp) : List Value := [.int .i64 cut, .map (some b), .int .i64 h.w, .int .i64 h.l, .int .i64 h.n]

theorem New_yes (cut : Int) (h : 1 ≤ cut ∧ cut ≤ 24) (w : World) : Calls Try.prog 8 #[.int .i64 cut] w fun e w' => ∃ p b, e = .returned (.tuple #[.pointer (some ⟨p, 0, none⟩), .int .i64 0]) ∧ Hp w No w' [cB p (vwc cut b sz0) 79, cM Try.prog 9 b (tw [])] := by
  refine Sx.calls_into Try.func8 rfl Try.ntmps8 rfl fun a hT => ?_
  replace hT := hT.keep [0] rfl
  have H : Sx.Hp w (Sx.No) w [] := Sx.Hp.start _ _
  refine wp_seq_k fun K1 hK1 => ?_
  -- region 0 (view.go:32)
  refine Sx.wp_text [(0, .take), (1, .take)] rfl ?_
  refine Sx.st_take hT rfl rfl rfl rfl (Sx.x_assign hT rfl rfl) ?_
  clear hT; intro a hT
  refine Sx.st_take hT rfl rfl rfl rfl (Sx.x_assign hT rfl rfl) ?_
  clear hT; intro a hT
  replace hT := hT.keep [3, 2, 0] rfl
  refine Sx.ser_nil ?_
  refine Sx.then_normal (hK1 _ _ ?_)
  clear hK1
  refine wp_seq_k fun K2 hK2 => ?_
  refine wp_seq_k fun K3 hK3 => ?_
  -- region 1 (view.go:33)
  refine Sx.wp_text [(0, .take), (1, .run), (2, .take)] rfl ?_
  refine Sx.st_take hT rfl rfl rfl rfl (Sx.x_move hT rfl rfl) ?_
  clear hT; intro a hT
  refine Sx.st_call hT rfl rfl rfl rfl rfl Try.can28 rfl (may_calls _ _) ?_
  rintro _ w1 ⟨rfl, E⟩
  refine ⟨_, rfl, ?_⟩
  clear hT; intro a hT
  replace H := H.pure E; clear E
  refine Sx.st_take hT rfl rfl rfl rfl (Sx.x_not hT rfl rfl) ?_
  clear hT; intro a hT
  replace hT := hT.keep [6, 3, 2, 0] rfl
  refine Sx.ser_nil ?_
  refine Sx.then_normal (hK3 _ _ ?_)
  clear hK3
  -- cond 0
  refine Sx.wp_if hT rfl (fun hc4 => ?_) (fun hc4 => ?_)
  · exfalso
    try simp only [decide_eq_true_eq, decide_eq_false_iff_not, Bool.not_eq_true', Bool.not_eq_false', Bool.not_eq_true, Bool.not_eq_false, Bool.and_eq_true, Bool.or_eq_false_iff, beq_iff_eq, bne_iff_ne, Int.not_lt, Int.not_le, ne_eq] at hc4
    first | exact hc4 h | simp_all | omega
  · try simp only [decide_eq_true_eq, decide_eq_false_iff_not, Bool.not_eq_true', Bool.not_eq_false', Bool.not_eq_true, Bool.not_eq_false, Bool.and_eq_true, Bool.or_eq_false_iff, beq_iff_eq, bne_iff_ne, Int.not_lt, Int.not_le, ne_eq] at hc4
    refine wp_skip ?_
    refine Sx.then_normal (hK2 _ _ ?_)
    clear hK2
    refine wp_seq_k fun K5 hK5 => ?_
    -- region 3 (view.go:36)
    refine Sx.wp_text [(0, .take), (1, .run), (2, .take), (3, .run), (4, .take), (5, .take)] rfl ?_
    refine Sx.st_take hT rfl rfl rfl rfl (Sx.x_move hT rfl rfl) ?_
    clear hT; intro a hT
    refine Sx.st_eff hT rfl rfl rfl rfl (Sx.x_makeMap 9 hT rfl _) ?_
    rintro _ w2 ⟨bm6, rfl, N⟩
    clear hT; intro a hT
    replace H := H.newM N; clear N
    rw [show (DataW.map [] : DataW Value) = tw [] from rfl] at H
    refine Sx.st_take hT rfl rfl rfl rfl (Sx.x_bld hT rfl Try.bld79 rfl rfl) ?_
    clear hT; intro a hT
    refine Sx.st_eff hT rfl rfl rfl rfl (Sx.y_box hT rfl rfl rfl _) ?_
    clear hT; rintro _ w3 ⟨b1, rfl, N⟩ a hT
    replace H := H.new N; clear N
    refine Sx.st_take hT rfl rfl rfl rfl (Sx.x_assign hT rfl rfl) ?_
    clear hT; intro a hT
    refine Sx.st_take hT rfl rfl rfl rfl (Sx.x_assign hT rfl rfl) ?_
    clear hT; intro a hT
    replace hT := hT.keep [3, 2, 6, 0] rfl
    refine Sx.ser_nil ?_
    refine Sx.then_normal (hK5 _ _ ?_)
    clear hK5
    refine wp_ret ?_
    refine Sx.done2 (fn := Try.f8) hT rfl (.tmp (hT.get 2 _ rfl)) (.tmp (hT.get 3 _ rfl)) ?_
    exact ⟨_, _, rfl, H.keep [0, 1] rfl rfl⟩

theorem New_no (cut : Int) (h : ¬ (1 ≤ cut ∧ cut ≤ 24)) (w : World) : Calls Try.prog 8 #[.int .i64 cut] w fun e w' => e = .returned (.tuple #[.pointer none, .int .i64 1]) ∧ Ext No w w' := by
  refine Sx.calls_into Try.func8 rfl Try.ntmps8 rfl fun a hT => ?_
  replace hT := hT.keep [0] rfl
  have H : Sx.Hp w (Sx.No) w [] := Sx.Hp.start _ _
  refine wp_seq_k fun K1 hK1 => ?_
  -- region 0 (view.go:32)
  refine Sx.wp_text [(0, .take), (1, .take)] rfl ?_
  refine Sx.st_take hT rfl rfl rfl rfl (Sx.x_assign hT rfl rfl) ?_
  clear hT; intro a hT
  refine Sx.st_take hT rfl rfl rfl rfl (Sx.x_assign hT rfl rfl) ?_
  clear hT; intro a hT
  replace hT := hT.keep [3, 2, 0] rfl
  refine Sx.ser_nil ?_
  refine Sx.then_normal (hK1 _ _ ?_)
  clear hK1
  refine wp_seq_k fun K2 hK2 => ?_
  refine wp_seq_k fun K3 hK3 => ?_
  -- region 1 (view.go:33)
  refine Sx.wp_text [(0, .take), (1, .run), (2, .take)] rfl ?_
  refine Sx.st_take hT rfl rfl rfl rfl (Sx.x_move hT rfl rfl) ?_
  clear hT; intro a hT
  refine Sx.st_call hT rfl rfl rfl rfl rfl Try.can28 rfl (may_calls _ _) ?_
  rintro _ w1 ⟨rfl, E⟩
  refine ⟨_, rfl, ?_⟩
  clear hT; intro a hT
  replace H := H.pure E; clear E
  refine Sx.st_take hT rfl rfl rfl rfl (Sx.x_not hT rfl rfl) ?_
  clear hT; intro a hT
  replace hT := hT.keep [6, 3, 2, 0] rfl
  refine Sx.ser_nil ?_
  refine Sx.then_normal (hK3 _ _ ?_)
  clear hK3
  -- cond 0
  refine Sx.wp_if hT rfl (fun hc4 => ?_) (fun hc4 => ?_)
  · try simp only [decide_eq_true_eq, decide_eq_false_iff_not, Bool.not_eq_true', Bool.not_eq_false', Bool.not_eq_true, Bool.not_eq_false, Bool.and_eq_true, Bool.or_eq_false_iff, beq_iff_eq, bne_iff_ne, Int.not_lt, Int.not_le, ne_eq] at hc4
    refine wp_seq_k fun K5 hK5 => ?_
    -- region 2 (view.go:34)
    refine Sx.wp_text [(0, .take), (1, .take)] rfl ?_
    refine Sx.st_take hT rfl rfl rfl rfl (Sx.x_assign hT rfl rfl) ?_
    clear hT; intro a hT
    refine Sx.st_take hT rfl rfl rfl rfl (Sx.x_assign hT rfl rfl) ?_
    clear hT; intro a hT
    replace hT := hT.keep [3, 2, 6, 0] rfl
    refine Sx.ser_nil ?_
    refine Sx.then_normal (hK5 _ _ ?_)
    clear hK5
    refine wp_ret ?_
    refine Sx.then_ret ?_
    refine Sx.done2 (fn := Try.f8) hT rfl (.tmp (hT.get 2 _ rfl)) (.tmp (hT.get 3 _ rfl)) ?_
    exact ⟨rfl, H.ext⟩
  · exfalso
    try simp only [decide_eq_true_eq, decide_eq_false_iff_not, Bool.not_eq_true', Bool.not_eq_false', Bool.not_eq_true, Bool.not_eq_false, Bool.and_eq_true, Bool.or_eq_false_iff, beq_iff_eq, bne_iff_ne, Int.not_lt, Int.not_le, ne_eq] at hc4
    first | exact h hc4 | simp_all | omega

theorem High_calls {p : Nat} {cut : Int} {b : Nat} {h : Stp} {w : World} (hB : Blk w p (vwc cut b h) 79) : Calls Try.prog 17 #[.pointer (some ⟨p, 0, none⟩)] w fun e w' => e = .returned (.agg #[.int .i64 h.w, .int .i64 h.l, .int .i64 h.n]) ∧ Ext No w w' := by
  have RB : Ro w No _ := Ro.of fun w' x => hB.ext_no x
  refine Sx.calls_into Try.func17 rfl Try.ntmps17 rfl fun a hT => ?_
  replace hT := hT.keep [0] rfl
  have H : Sx.Hp w (Sx.No) w [] := Sx.Hp.start _ _
  refine wp_seq_k fun K1 hK1 => ?_
  -- region 0 (view.go:59)
  refine Sx.wp_text [(0, .run)] rfl ?_
  refine Sx.st_eff hT rfl rfl rfl rfl (Sx.y_alloc hT rfl Try.ti35 rfl _) ?_
  clear hT; rintro _ w1 ⟨b1, rfl, N⟩ a hT
  replace H := H.new N; clear N
  replace hT := hT.keep [2, 0] rfl
  refine Sx.ser_nil ?_
  refine Sx.then_normal (hK1 _ _ ?_)
  clear hK1
  refine wp_seq_k fun K2 hK2 => ?_
  -- region 1 (view.go:59)
  refine Sx.wp_text [(0, .take), (1, .take), (2, .take), (3, .run), (4, .run)] rfl ?_
  refine Sx.st_take hT rfl rfl rfl rfl (Sx.x_move hT rfl rfl) ?_
  clear hT; intro a hT
  refine Sx.st_take hT rfl rfl rfl rfl (Sx.x_nilCheck hT rfl rfl) ?_
  clear hT; intro a hT
  refine Sx.st_take hT rfl rfl rfl rfl (Sx.x_fieldAddr hT rfl Try.fa79_2 rfl) ?_
  clear hT; intro a hT
  refine Sx.st_run hT rfl rfl rfl rfl (Sx.y_loadS hT rfl Try.underlying35 Try.ti35 rfl (by first | exact ((H.blk 0 rfl).seg (k := 3) rfl) | exact ((RB.at H.ext).seg (k := 3) rfl)) (by rfl)) ?_
  clear hT; intro a hT
  refine Sx.st_act hT rfl rfl rfl (Sx.y_storeS hT rfl Try.ti35 rfl rfl rfl rfl rfl (H.blk 0 rfl) rfl) ?_
  rintro w2 ⟨hb, E, _⟩
  replace H := H.setB 0 rfl hb E rfl; clear hb E
  replace hT := hT.keep [2, 0] rfl
  refine Sx.ser_nil ?_
  refine Sx.then_normal (hK2 _ _ ?_)
  clear hK2
  refine wp_ret ?_
  refine Sx.done1 (fn := Try.f17) hT rfl (.cell (hT.get 2 _ rfl) (Sx.run_resS Try.underlying35 Try.ti35 ((H.blk 0 rfl).seg (k := 3) rfl) (by rfl))) ?_
  exact ⟨rfl, H.ext⟩

end Go.Proofs.Ytakjfnckbidbcaa
