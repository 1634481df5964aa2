/- Walks: the document's sift: put, Has, Add. -/
import Derived.Test.YthhdoeflafakaaaS8
import Derived.Test.YthhdoeflafakaaaS7
set_option linter.unusedSimpArgs false
set_option linter.unusedVariables false
namespace Go.Proofs.Ythhdoeflafakaaa
open Sx
theorem Try.fa55_0 : Sx.FA Try.prog 55 0 0 := ⟨_, _, _, _, _, Try.underlying55, rfl, rfl, Try.ti29, by decide⟩
theorem Try.can20 : Sx.Can Try.prog 20 := ⟨_, Try.func20, by kernel_rfl, rfl⟩
theorem Try.can24 : Sx.Can Try.prog 24 := ⟨_, Try.func24, by kernel_rfl, rfl⟩
theorem Try.can49 : Sx.Can Try.prog 49 := ⟨_, Try.func49, by kernel_rfl, rfl⟩
theorem snoc_g {I : List Fr} {f : Fr} : I.flatMap Fr.cells ++ [.int .i64 f.rg, .int .i64 f.at_, .int .i64 f.t.co, .int .i64 f.t.li, .int .i64 f.t.sq, .int .i64 f.s.w, .int .i64 f.s.l, .int .i64 f.s.n, .slice f.ad f.ws.length f.c] = (I ++ [f]).flatMap Fr.cells := by simp [Fr.cells]
theorem tk_g {l : List Fr} {k : Nat} {o : Fr} (h : l[k]? = some o) : (l.take k).flatMap Fr.cells ++ [.int .i64 o.rg, .int .i64 o.at_, .int .i64 o.t.co, .int .i64 o.t.li, .int .i64 o.t.sq, .int .i64 o.s.w, .int .i64 o.s.l, .int .i64 o.s.n, .slice o.ad o.ws.length o.c] = (l.take (k + 1)).flatMap Fr.cells := by
  rw [take_app h, snoc_g]
theorem cut_g {l : List Fr} {p : Nat} (hp : p ≤ l.length) : ((l.flatMap Fr.cells).drop (p * 9)).take ((l.length - p) * 9) = (l.drop p).flatMap Fr.cells := by
  rw [flat_drop Fr.len, List.take_of_length_le (by rw [flat_len Fr.len, List.length_drop]; omega)]
/-- a slice that may begin behind its block's beginning -/
@[reducible] def cQ (ad0 ad : Option Addr) (c : Nat) (L : List Fr) : Chunk := (Own ad0, fun w => Ss w ad Fr.cells 9 L ∧ L.length ≤ c ∧ (ad = none → L.length = 0 ∧ c = 0))
theorem _root_.Go.Sx.Hp.qs {w0 w : World} {S : Nat → Prop} {l : List Chunk} {ad0 ad : Option Addr} {c : Nat} {L : List Fr} (H : Hp w0 S w l) (i : Nat) (h : cget l i = some (cQ ad0 ad c L)) : Ss w ad Fr.cells 9 L ∧ L.length ≤ c ∧ (ad = none → L.length = 0 ∧ c = 0) := (H.ck _ (mem_of_cget h)).now
theorem row_q {w : World} {ad : Option Addr} {c n : Nat} {L : List Fr} (hn : n = L.length) (h : Row w 35 9 ad n c (L.flatMap Fr.cells)) : Ss w ad Fr.cells 9 L ∧ L.length ≤ c ∧ (ad = none → L.length = 0 ∧ c = 0) := by
  subst hn
  exact ⟨h.ssn rfl, h.le.1, rownil h⟩

theorem put_calls {ad : Option Addr} {c : Nat} (l : List Wt) (x : Wt) {w : World} (hs : Ss w ad Wt.cells 4 l) (hc : l.length ≤ c) (hn : ad = none → l.length = 0 ∧ c = 0) (hl : l.length ≤ 1000000) : Calls Try.prog 49 #[.slice ad l.length c, .agg #[.string ⟨x.key.toArray⟩, .int .i64 x.v.k, .float .f64 x.v.num, .string ⟨x.v.tx.toArray⟩]] w fun e w' => ∃ ad' c', e = .returned (.slice ad' (putS l x).length c') ∧ Hp w No w' [cR 50 4 ad' (putS l x).length c' ((putS l x).flatMap Wt.cells)] := by
  have R : Ro w No _ := Ro.of fun w' x => hs.ext_no x
  refine Sx.calls_into Try.func49 rfl Try.ntmps49 rfl fun a hT => ?_
  replace hT := hT.keep [0, 1] rfl
  have H : Sx.Hp w (Sx.No) w [] := Sx.Hp.start _ _
  refine wp_seq_k fun K1 hK1 => ?_
  -- region 0 (ref.go:66)
  refine Sx.wp_text [(0, .run), (1, .take)] rfl ?_
  refine Sx.st_eff hT rfl rfl rfl rfl (Sx.y_box hT rfl rfl rfl _) ?_
  clear hT; rintro _ w1 ⟨b1, rfl, N⟩ a hT
  replace H := H.new N; clear N
  refine Sx.st_take hT rfl rfl rfl rfl (Sx.x_assign hT rfl rfl) ?_
  clear hT; intro a hT
  replace hT := hT.keep [4, 3, 0, 1] rfl
  refine Sx.ser_nil ?_
  refine Sx.then_normal (hK1 _ _ ?_)
  clear hK1
  refine wp_seq_k fun K2 hK2 => ?_
  -- region 1 (ref.go:67)
  refine Sx.wp_text [(0, .take)] rfl ?_
  refine Sx.st_take hT rfl rfl rfl rfl (Sx.x_assign hT rfl rfl) ?_
  clear hT; intro a hT
  replace hT := hT.keep [5, 4, 3, 0, 1] rfl
  refine Sx.ser_nil ?_
  refine Sx.then_normal (hK2 _ _ ?_)
  clear hK2
  refine wp_seq_k fun K3 hK3 => ?_
  -- region 2 (ref.go:68)
  refine Sx.wp_text [(0, .take)] rfl ?_
  refine Sx.st_take hT rfl rfl rfl rfl (Sx.x_assign hT rfl rfl) ?_
  clear hT; intro a hT
  replace hT := hT.keep [6, 5, 4, 3, 0, 1] rfl
  refine Sx.ser_nil ?_
  refine Sx.then_normal (hK3 _ _ ?_)
  clear hK3
  refine wp_seq_k fun K4 hK4 => ?_
  refine wp_block ?_
  replace H := H.nilR 50 4
  -- loop 0
  refine Sx.wp_loopH (G := Nat × Option Addr × Nat) (fun ⟨i, ad2, c2⟩ => [(6, .int .i64 (i : Int)), (5, .slice ad2 i c2)]) (fun ⟨i, ad2, c2⟩ => [cR 50 4 ad2 i c2 ((l.take i).flatMap Wt.cells)]) (fun ⟨i, ad2, c2⟩ => i ≤ l.length ∧ ∀ (t : Nat) q, t < i → l[t]? = some q → slt q.key x.key) (fun ⟨i, ad2, c2⟩ => l.length - i) (0, none, 0) (hT.keep [6, 5, 4, 3, 0, 1] rfl) (H.keep [0, 1] rfl rfl) (⟨Nat.zero_le _, fun t q h => by omega⟩) ?_
  clear hT H
  rintro ⟨i, ad2, c2⟩ a w2 hJ hT H
  replace hT := hT.keep [6, 5, 4, 3, 0, 1] rfl
  replace H := H.keep [0, 1] rfl rfl
  obtain ⟨hi, hlt⟩ := hJ
  refine wp_seq_k fun K5 hK5 => ?_
  refine wp_seq_k fun K6 hK6 => ?_
  -- region 3 (ref.go:69)
  refine Sx.wp_draws (fun u => Sx.Ext (Sx.No) u) [(0, .take), (1, .take), (2, .take), (3, .take), (4, .take), (5, .take), (6, .take), (7, .take), (8, .take), (9, .held), (10, .take), (11, .held), (12, .take), (13, .take)] (by kernel_rfl) (by kernel_rfl) (fun u E _ => ?_)
  replace H := H.pure E; clear E
  have hH : Sx.Ext (Sx.No) u u := Sx.Ext.refl _ _
  have Hu := H
  refine Sx.st_take hT rfl rfl rfl rfl (Sx.x_move hT rfl rfl) ?_
  clear hT; intro a hT
  refine Sx.st_take hT rfl rfl rfl rfl (Sx.x_move hT rfl rfl) ?_
  clear hT; intro a hT
  refine Sx.st_take hT rfl rfl rfl rfl (Sx.x_len_slice hT rfl rfl Try.underlying33 rfl) ?_
  clear hT; intro a hT
  refine Sx.st_take hT rfl rfl rfl rfl ((fun w => Sx.x_lt w hT rfl rfl rfl)) ?_
  clear hT; intro a hT
  refine Sx.st_take hT rfl rfl rfl rfl (Sx.x_move hT rfl rfl) ?_
  clear hT; intro a hT
  -- guard (3, 4)
  refine Sx.Sl.two hT 11 rfl (fun hc7 hT => ?_) (fun hc7 hT => ?_)
  · try simp only [decide_eq_true_eq, decide_eq_false_iff_not, Bool.not_eq_true', Bool.not_eq_false', Bool.not_eq_true, Bool.not_eq_false, Bool.and_eq_true, Bool.or_eq_false_iff, beq_iff_eq, bne_iff_ne, Int.not_lt, Int.not_le, ne_eq] at hc7
    obtain ⟨o, ho⟩ : ∃ o, l[i]? = some o := ⟨_, List.getElem?_eq_getElem (by omega)⟩
    refine Sx.st_take hT rfl rfl rfl rfl (Sx.x_move hT rfl rfl) ?_
    clear hT; intro a hT
    refine Sx.st_take hT rfl rfl rfl rfl (Sx.x_move hT rfl rfl) ?_
    clear hT; intro a hT
    refine Sx.st_take hT rfl rfl rfl rfl (Sx.x_index (k := i) hT rfl Try.underlying33 Try.ti50 (R.at H.ext).sv rfl rfl (by first | rfl | omega) (by omega)) ?_
    clear hT; intro a hT
    refine Sx.st_take hT rfl rfl rfl rfl (Sx.x_fieldAddr hT rfl Try.fa50_0 rfl) ?_
    clear hT; intro a hT
    refine Sx.st_held hT rfl rfl rfl rfl hH (fun w' h' => Sx.x_load1 hT rfl Try.fl9 rfl (by first | exact ((Hu.heldB 1 rfl h' Sx.off_No).nth rfl) | exact ((R.at (Hu.ext.step h')).cell (j := 0) Wt.len ho rfl))) ?_
    clear hT; intro a hT
    refine Sx.st_take hT rfl rfl rfl rfl (Sx.x_fieldAddr hT rfl Try.fa50_0 rfl) ?_
    clear hT; intro a hT
    refine Sx.st_held hT rfl rfl rfl rfl hH (fun w' h' => Sx.x_load1 hT rfl Try.fl9 rfl ((Hu.heldB 1 rfl h' Sx.off_No).nth rfl)) ?_
    clear hT; intro a hT
    refine Sx.st_take hT rfl rfl rfl rfl ((fun w => Sx.x_strlt w hT rfl rfl rfl)) ?_
    clear hT; intro a hT
    refine Sx.st_take hT rfl rfl rfl rfl (Sx.x_pick_t hT rfl rfl rfl) ?_
    clear hT; intro a hT
    replace hT := hT.keep [20, 6, 5, 4, 3, 0, 1] rfl
    clear Hu hH
    refine Sx.ser_calm ?_
    refine Sx.then_normal (hK6 _ _ ?_)
    clear hK6
    -- cond 0
    refine Sx.wp_if hT rfl (fun hc8 => ?_) (fun hc8 => ?_)
    · try simp only [decide_eq_true_eq, decide_eq_false_iff_not, Bool.not_eq_true', Bool.not_eq_false', Bool.not_eq_true, Bool.not_eq_false, Bool.and_eq_true, Bool.or_eq_false_iff, beq_iff_eq, bne_iff_ne, Int.not_lt, Int.not_le, ne_eq] at hc8
      have hlt9 : slt o.key x.key := hc8
      refine wp_skip ?_
      refine Sx.then_normal (hK5 _ _ ?_)
      clear hK5
      refine wp_block ?_
      refine wp_seq_k fun K9 hK9 => ?_
      -- region 4 (ref.go:70)
      refine Sx.wp_text [(0, .take), (1, .take), (2, .take), (3, .take), (4, .run), (5, .run), (6, .run), (7, .take)] rfl ?_
      refine Sx.st_take hT rfl rfl rfl rfl (Sx.x_move hT rfl rfl) ?_
      clear hT; intro a hT
      refine Sx.st_take hT rfl rfl rfl rfl (Sx.x_move hT rfl rfl) ?_
      clear hT; intro a hT
      refine Sx.st_take hT rfl rfl rfl rfl (Sx.x_move hT rfl rfl) ?_
      clear hT; intro a hT
      refine Sx.st_take hT rfl rfl rfl rfl (Sx.x_index (k := i) hT rfl Try.underlying33 Try.ti50 (R.at H.ext).sv rfl rfl (by first | rfl | omega) (by omega)) ?_
      clear hT; intro a hT
      refine Sx.st_run hT rfl rfl rfl rfl (Sx.y_loadS hT rfl Try.underlying50 Try.ti50 rfl (by first | exact ((H.blk 1 rfl).seg (k := 4) rfl) | exact ((R.at H.ext).cs Wt.len ho)) (by rfl)) ?_
      clear hT; intro a hT
      refine Sx.st_eff hT rfl rfl rfl rfl (Sx.y_slice1 hT rfl Try.underlying33 Try.ti50 rfl rfl rfl rfl rfl rfl _) ?_
      clear hT; rintro _ w3 ⟨b2, rfl, N⟩ a hT
      replace H := H.new N; clear N
      refine Sx.st_eff hT rfl rfl rfl rfl (Sx.x_append hT rfl rfl Try.underlying33 Try.ti50 rfl (by decide) rfl rfl (H.row 1 rfl) ((H.blk 0 rfl).sv1 rfl) (Wt.one o) (fun h => by cases h) (by unfold maxLen; omega) (by omega)) ?_
      rintro _ w4 ⟨ad4, c4, rfl, hr, E, hown, -⟩
      clear hT; intro a hT
      replace H := H.setR 1 rfl hr E hown rfl; clear hr E hown
      rw [tk_w ho] at H
      refine Sx.st_take hT rfl rfl rfl rfl (Sx.x_assign hT rfl rfl) ?_
      clear hT; intro a hT
      replace hT := hT.keep [5, 20, 6, 4, 3, 0, 1] rfl
      refine Sx.ser_nil ?_
      refine Sx.then_normal (hK9 _ _ ?_)
      clear hK9
      -- region 5 (ref.go:71)
      refine Sx.wp_text [(0, .take), (1, .take), (2, .take)] rfl ?_
      refine Sx.st_take hT rfl rfl rfl rfl (Sx.x_move hT rfl rfl) ?_
      clear hT; intro a hT
      refine Sx.st_take hT rfl rfl rfl rfl ((fun w => Sx.x_add w hT rfl rfl rfl (Sx.wrap64 (by omega)))) ?_
      clear hT; intro a hT
      refine Sx.st_take hT rfl rfl rfl rfl (Sx.x_assign hT rfl rfl) ?_
      clear hT; intro a hT
      replace hT := hT.keep [6, 5, 20, 4, 3, 0, 1] rfl
      refine Sx.ser_nil ?_
      refine Sx.block_normal ?_
      refine Sx.then_normal ?_
      exact ⟨(i + 1, ad4, c4), ⟨by show i + 1 ≤ _; omega, fun t q h3 h4 => by rcases Nat.lt_or_ge t i with h5 | h5; exact hlt t q h5 h4; obtain rfl : t = i := (by have : t < i + 1 := h3; omega); rw [ho] at h4; cases h4; exact hlt9⟩, (hT.keep [6, 5, 4, 3, 0, 1] rfl), (H.keep [1, 2] rfl rfl), by show _ - (i + 1) < _ - i; omega⟩
    · try simp only [decide_eq_true_eq, decide_eq_false_iff_not, Bool.not_eq_true', Bool.not_eq_false', Bool.not_eq_true, Bool.not_eq_false, Bool.and_eq_true, Bool.or_eq_false_iff, beq_iff_eq, bne_iff_ne, Int.not_lt, Int.not_le, ne_eq] at hc8
      have hge : ∀ q, l[i]? = some q → ¬ slt q.key x.key := fun q hq => by rw [ho] at hq; cases hq; exact (less_not _ _).1 hc8
      have hle : lead x.key l = i := lead_eq hlt hge hi
      refine wp_exit ?_
      refine Sx.then_exit ?_
      refine Sx.then_exit ?_
      refine Sx.block_exit ?_
      refine Sx.then_normal (hK4 _ _ ?_)
      clear hK4
      refine wp_seq_k fun K10 hK10 => ?_
      -- region 6 (ref.go:73)
      refine Sx.wp_text [(0, .take), (1, .run), (2, .run), (3, .run), (4, .take)] rfl ?_
      refine Sx.st_take hT rfl rfl rfl rfl (Sx.x_move hT rfl rfl) ?_
      clear hT; intro a hT
      refine Sx.st_run hT rfl rfl rfl rfl (Sx.y_loadS hT rfl Try.underlying50 Try.ti50 rfl ((H.blk 1 rfl).seg (k := 4) rfl) (by rfl)) ?_
      clear hT; intro a hT
      refine Sx.st_eff hT rfl rfl rfl rfl (Sx.y_slice1 hT rfl Try.underlying33 Try.ti50 rfl rfl rfl rfl rfl rfl _) ?_
      clear hT; rintro _ w5 ⟨b3, rfl, N⟩ a hT
      replace H := H.new N; clear N
      refine Sx.st_eff hT rfl rfl rfl rfl (Sx.x_append hT rfl rfl Try.underlying33 Try.ti50 rfl (by decide) rfl rfl (H.row 1 rfl) ((H.blk 0 rfl).sv1 rfl) (by simp [Value.oneCell']) (fun h => by cases h) (by unfold maxLen; omega) (by omega)) ?_
      rintro _ w6 ⟨ad6, c6, rfl, hr, E, hown, -⟩
      clear hT; intro a hT
      replace H := H.setR 1 rfl hr E hown rfl; clear hr E hown
      rw [snoc_w] at H
      refine Sx.st_take hT rfl rfl rfl rfl (Sx.x_assign hT rfl rfl) ?_
      clear hT; intro a hT
      replace hT := hT.keep [5, 20, 6, 4, 3, 0, 1] rfl
      refine Sx.ser_nil ?_
      refine Sx.then_normal (hK10 _ _ ?_)
      clear hK10
      refine wp_seq_k fun K11 hK11 => ?_
      -- region 7 (ref.go:74)
      have hsp : putS l x = (l.take i ++ [x]) ++ l.drop i := by unfold putS; rw [hle, List.append_assoc]; rfl
      have hlen : i + 1 + (l.length - i) = (putS l x).length := by rw [hsp, List.length_append, List.length_append, List.length_take, List.length_drop, Nat.min_eq_left hi]; simp only [List.length_cons, List.length_nil]
      refine Sx.wp_text [(0, .take), (1, .take), (2, .take), (3, .take), (4, .run), (5, .take)] rfl ?_
      refine Sx.st_take hT rfl rfl rfl rfl (Sx.x_move hT rfl rfl) ?_
      clear hT; intro a hT
      refine Sx.st_take hT rfl rfl rfl rfl (Sx.x_move hT rfl rfl) ?_
      clear hT; intro a hT
      refine Sx.st_take hT rfl rfl rfl rfl (Sx.x_move hT rfl rfl) ?_
      clear hT; intro a hT
      refine Sx.st_take hT rfl rfl rfl rfl (Sx.x_slice_l (p := i) hT rfl Try.underlying33 Try.ti50 rfl rfl rfl (by omega)) ?_
      clear hT; intro a hT
      refine Sx.st_eff hT rfl rfl rfl rfl (Sx.x_append hT rfl rfl Try.underlying33 Try.ti50 rfl (by decide) rfl rfl (H.row 1 rfl) (((R.at H.ext).sv).cut (lo := i) (hi := l.length) (by omega) (Nat.le_refl _) hc) (fun u hu => by rw [cut_w (by omega)] at hu; exact flat_one Wt.one _ u hu) (fun h => nilcut2 hn h) (by unfold maxLen; omega) (by omega)) ?_
      rintro _ w7 ⟨ad7, c7, rfl, hr, E, hown, -⟩
      clear hT; intro a hT
      replace H := H.setR 1 rfl hr E hown rfl; clear hr E hown
      rw [cut_w (by omega), ← List.flatMap_append, ← hsp, hlen] at H
      rw [hlen] at hT
      refine Sx.st_take hT rfl rfl rfl rfl (Sx.x_assign hT rfl rfl) ?_
      clear hT; intro a hT
      replace hT := hT.keep [4, 5, 20, 6, 3, 0, 1] rfl
      refine Sx.ser_nil ?_
      refine Sx.then_normal (hK11 _ _ ?_)
      clear hK11
      refine wp_ret ?_
      refine Sx.done1 (fn := Try.f49) hT rfl (.tmp (hT.get 4 _ rfl)) ?_
      exact ⟨_, _, rfl, H.keep [1] rfl rfl⟩
  · try simp only [decide_eq_true_eq, decide_eq_false_iff_not, Bool.not_eq_true', Bool.not_eq_false', Bool.not_eq_true, Bool.not_eq_false, Bool.and_eq_true, Bool.or_eq_false_iff, beq_iff_eq, bne_iff_ne, Int.not_lt, Int.not_le, ne_eq] at hc7
    refine Sx.st_skip hT rfl rfl rfl rfl ?_
    clear hT; intro a hT
    refine Sx.st_skip hT rfl rfl rfl rfl ?_
    clear hT; intro a hT
    refine Sx.st_skip hT rfl rfl rfl rfl ?_
    clear hT; intro a hT
    refine Sx.st_skip hT rfl rfl rfl rfl ?_
    clear hT; intro a hT
    refine Sx.st_heldskip hT rfl rfl rfl rfl hH ?_
    clear hT; intro a hT
    refine Sx.st_skip hT rfl rfl rfl rfl ?_
    clear hT; intro a hT
    refine Sx.st_heldskip hT rfl rfl rfl rfl hH ?_
    clear hT; intro a hT
    refine Sx.st_skip hT rfl rfl rfl rfl ?_
    clear hT; intro a hT
    refine Sx.st_take hT rfl rfl rfl rfl (Sx.x_pick_f hT rfl rfl rfl) ?_
    clear hT; intro a hT
    replace hT := hT.keep [20, 6, 5, 4, 3, 0, 1] rfl
    clear Hu hH
    refine Sx.ser_calm ?_
    refine Sx.then_normal (hK6 _ _ ?_)
    clear hK6
    refine Sx.wp_if hT rfl (fun h => by cases h) (fun _ => ?_)
    have hge : ∀ q, l[i]? = some q → ¬ slt q.key x.key := fun q hq => by rw [List.getElem?_eq_none (by omega)] at hq; cases hq
    have hle : lead x.key l = i := lead_eq hlt hge hi
    refine wp_exit ?_
    refine Sx.then_exit ?_
    refine Sx.then_exit ?_
    refine Sx.block_exit ?_
    refine Sx.then_normal (hK4 _ _ ?_)
    clear hK4
    refine wp_seq_k fun K12 hK12 => ?_
    -- region 6 (ref.go:73)
    refine Sx.wp_text [(0, .take), (1, .run), (2, .run), (3, .run), (4, .take)] rfl ?_
    refine Sx.st_take hT rfl rfl rfl rfl (Sx.x_move hT rfl rfl) ?_
    clear hT; intro a hT
    refine Sx.st_run hT rfl rfl rfl rfl (Sx.y_loadS hT rfl Try.underlying50 Try.ti50 rfl ((H.blk 1 rfl).seg (k := 4) rfl) (by rfl)) ?_
    clear hT; intro a hT
    refine Sx.st_eff hT rfl rfl rfl rfl (Sx.y_slice1 hT rfl Try.underlying33 Try.ti50 rfl rfl rfl rfl rfl rfl _) ?_
    clear hT; rintro _ w8 ⟨b4, rfl, N⟩ a hT
    replace H := H.new N; clear N
    refine Sx.st_eff hT rfl rfl rfl rfl (Sx.x_append hT rfl rfl Try.underlying33 Try.ti50 rfl (by decide) rfl rfl (H.row 1 rfl) ((H.blk 0 rfl).sv1 rfl) (by simp [Value.oneCell']) (fun h => by cases h) (by unfold maxLen; omega) (by omega)) ?_
    rintro _ w9 ⟨ad9, c9, rfl, hr, E, hown, -⟩
    clear hT; intro a hT
    replace H := H.setR 1 rfl hr E hown rfl; clear hr E hown
    rw [snoc_w] at H
    refine Sx.st_take hT rfl rfl rfl rfl (Sx.x_assign hT rfl rfl) ?_
    clear hT; intro a hT
    replace hT := hT.keep [5, 20, 6, 4, 3, 0, 1] rfl
    refine Sx.ser_nil ?_
    refine Sx.then_normal (hK12 _ _ ?_)
    clear hK12
    refine wp_seq_k fun K13 hK13 => ?_
    -- region 7 (ref.go:74)
    have hsp : putS l x = (l.take i ++ [x]) ++ l.drop i := by unfold putS; rw [hle, List.append_assoc]; rfl
    have hlen : i + 1 + (l.length - i) = (putS l x).length := by rw [hsp, List.length_append, List.length_append, List.length_take, List.length_drop, Nat.min_eq_left hi]; simp only [List.length_cons, List.length_nil]
    refine Sx.wp_text [(0, .take), (1, .take), (2, .take), (3, .take), (4, .run), (5, .take)] rfl ?_
    refine Sx.st_take hT rfl rfl rfl rfl (Sx.x_move hT rfl rfl) ?_
    clear hT; intro a hT
    refine Sx.st_take hT rfl rfl rfl rfl (Sx.x_move hT rfl rfl) ?_
    clear hT; intro a hT
    refine Sx.st_take hT rfl rfl rfl rfl (Sx.x_move hT rfl rfl) ?_
    clear hT; intro a hT
    refine Sx.st_take hT rfl rfl rfl rfl (Sx.x_slice_l (p := i) hT rfl Try.underlying33 Try.ti50 rfl rfl rfl (by omega)) ?_
    clear hT; intro a hT
    refine Sx.st_eff hT rfl rfl rfl rfl (Sx.x_append hT rfl rfl Try.underlying33 Try.ti50 rfl (by decide) rfl rfl (H.row 1 rfl) (((R.at H.ext).sv).cut (lo := i) (hi := l.length) (by omega) (Nat.le_refl _) hc) (fun u hu => by rw [cut_w (by omega)] at hu; exact flat_one Wt.one _ u hu) (fun h => nilcut2 hn h) (by unfold maxLen; omega) (by omega)) ?_
    rintro _ w10 ⟨ad10, c10, rfl, hr, E, hown, -⟩
    clear hT; intro a hT
    replace H := H.setR 1 rfl hr E hown rfl; clear hr E hown
    rw [cut_w (by omega), ← List.flatMap_append, ← hsp, hlen] at H
    rw [hlen] at hT
    refine Sx.st_take hT rfl rfl rfl rfl (Sx.x_assign hT rfl rfl) ?_
    clear hT; intro a hT
    replace hT := hT.keep [4, 5, 20, 6, 3, 0, 1] rfl
    refine Sx.ser_nil ?_
    refine Sx.then_normal (hK13 _ _ ?_)
    clear hK13
    refine wp_ret ?_
    refine Sx.done1 (fn := Try.f49) hT rfl (.tmp (hT.get 4 _ rfl)) ?_
    exact ⟨_, _, rfl, H.keep [1] rfl rfl⟩

theorem xHas_calls {p : Nat} {ad : Option Addr} {c : Nat} (L : List Fr) (id : Int) (t : Tn) {w : World} (hB : Blk w p [.slice ad L.length c] 55) (hs : Ss w ad Fr.cells 9 L) (hl : L.length ≤ 1000000) : Calls Try.prog 24 #[.pointer (some ⟨p, 0, none⟩), .int .i64 id, .agg #[.int .i64 t.co, .int .i64 t.li, .int .i64 t.sq]] w fun e w' => e = .returned (.bool (hasF (L.map Fr.p) id t)) ∧ Ext No w w' := by
  have R : Ro w No _ := Ro.of fun w' x => hs.ext_no x
  have RB : Ro w No _ := Ro.of fun w' x => hB.ext_no x
  refine Sx.calls_into Try.func24 rfl Try.ntmps24 rfl fun a hT => ?_
  replace hT := hT.keep [0, 1, 2] rfl
  have H : Sx.Hp w (Sx.No) w [] := Sx.Hp.start _ _
  refine wp_seq_k fun K1 hK1 => ?_
  -- region 0 (ref.go:56)
  refine Sx.wp_text [(0, .run), (1, .take)] rfl ?_
  refine Sx.st_eff hT rfl rfl rfl rfl (Sx.y_box hT rfl rfl rfl _) ?_
  clear hT; rintro _ w1 ⟨b1, rfl, N⟩ a hT
  replace H := H.new N; clear N
  refine Sx.st_take hT rfl rfl rfl rfl (Sx.x_assign hT rfl rfl) ?_
  clear hT; intro a hT
  replace hT := hT.keep [6, 5, 0, 1, 2] rfl
  refine Sx.ser_nil ?_
  refine Sx.then_normal (hK1 _ _ ?_)
  clear hK1
  refine wp_seq_k fun K2 hK2 => ?_
  refine wp_seq_k fun K3 hK3 => ?_
  -- region 1 (ref.go:57)
  refine Sx.wp_text [(0, .take)] rfl ?_
  refine Sx.st_take hT rfl rfl rfl rfl (Sx.x_assign hT rfl rfl) ?_
  clear hT; intro a hT
  replace hT := hT.keep [7, 6, 5, 0, 1, 2] rfl
  refine Sx.ser_nil ?_
  refine Sx.then_normal (hK3 _ _ ?_)
  clear hK3
  refine wp_block ?_
  -- loop 0
  refine Sx.wp_loopH (G := Nat) (fun i => [(7, .int .i64 (i : Int))]) (fun i => []) (fun i => i ≤ L.length ∧ ∀ (k : Nat) q, k < i → L[k]? = some q → ¬ (q.rg = id ∧ q.t = t)) (fun i => L.length - i) 0 (hT.keep [7, 5, 0, 1, 2] rfl) (H.keep [0] rfl rfl) (⟨Nat.zero_le _, fun k q h => by omega⟩) ?_
  clear hT H
  rintro i a w2 hJ hT H
  replace hT := hT.keep [7, 5, 0, 1, 2] rfl
  replace H := H.keep [0] rfl rfl
  obtain ⟨hi, hnp⟩ := hJ
  refine wp_seq_k fun K4 hK4 => ?_
  refine wp_seq_k fun K5 hK5 => ?_
  -- region 2 (ref.go:57)
  refine Sx.wp_text [(0, .take), (1, .take), (2, .take), (3, .take), (4, .run), (5, .take), (6, .take)] rfl ?_
  refine Sx.st_take hT rfl rfl rfl rfl (Sx.x_move hT rfl rfl) ?_
  clear hT; intro a hT
  refine Sx.st_take hT rfl rfl rfl rfl (Sx.x_move hT rfl rfl) ?_
  clear hT; intro a hT
  refine Sx.st_take hT rfl rfl rfl rfl (Sx.x_nilCheck hT rfl rfl) ?_
  clear hT; intro a hT
  refine Sx.st_take hT rfl rfl rfl rfl (Sx.x_fieldAddr hT rfl Try.fa55_0 rfl) ?_
  clear hT; intro a hT
  refine Sx.st_run hT rfl rfl rfl rfl (Sx.x_load1 hT rfl Try.fl29 rfl (by first | exact ((H.blk 0 rfl).nth rfl) | exact ((RB.at H.ext).nth (j := 0) rfl))) ?_
  clear hT; intro a hT
  refine Sx.st_take hT rfl rfl rfl rfl (Sx.x_len_slice hT rfl rfl Try.underlying29 rfl) ?_
  clear hT; intro a hT
  refine Sx.st_take hT rfl rfl rfl rfl ((fun w => Sx.x_lt w hT rfl rfl rfl)) ?_
  clear hT; intro a hT
  replace hT := hT.keep [14, 7, 5, 0, 1, 2] rfl
  refine Sx.ser_nil ?_
  refine Sx.then_normal (hK5 _ _ ?_)
  clear hK5
  -- cond 0
  refine Sx.wp_if hT rfl (fun hc6 => ?_) (fun hc6 => ?_)
  · try simp only [decide_eq_true_eq, decide_eq_false_iff_not, Bool.not_eq_true', Bool.not_eq_false', Bool.not_eq_true, Bool.not_eq_false, Bool.and_eq_true, Bool.or_eq_false_iff, beq_iff_eq, bne_iff_ne, Int.not_lt, Int.not_le, ne_eq] at hc6
    obtain ⟨o, ho⟩ : ∃ o, L[i]? = some o := ⟨_, List.getElem?_eq_getElem (by omega)⟩
    have hom := List.mem_of_getElem? ho
    refine wp_skip ?_
    refine Sx.then_normal (hK4 _ _ ?_)
    clear hK4
    refine wp_seq_k fun K7 hK7 => ?_
    refine wp_block ?_
    refine wp_seq_k fun K8 hK8 => ?_
    -- region 4 (ref.go:58)
    refine Sx.wp_draws (fun u => Sx.Ext (Sx.No) u) [(0, .take), (1, .take), (2, .take), (3, .held), (4, .take), (5, .take), (6, .take), (7, .held), (8, .take), (9, .take), (10, .take), (11, .take), (12, .take), (13, .take), (14, .held), (15, .take), (16, .take), (17, .take), (18, .held), (19, .held), (20, .take), (21, .take)] (by kernel_rfl) (by kernel_rfl) (fun u E _ => ?_)
    replace H := H.pure E; clear E
    have hH : Sx.Ext (Sx.No) u u := Sx.Ext.refl _ _
    have Hu := H
    refine Sx.st_take hT rfl rfl rfl rfl (Sx.x_move hT rfl rfl) ?_
    clear hT; intro a hT
    refine Sx.st_take hT rfl rfl rfl rfl (Sx.x_nilCheck hT rfl rfl) ?_
    clear hT; intro a hT
    refine Sx.st_take hT rfl rfl rfl rfl (Sx.x_fieldAddr hT rfl Try.fa55_0 rfl) ?_
    clear hT; intro a hT
    refine Sx.st_held hT rfl rfl rfl rfl hH (fun w' h' => Sx.x_load1 hT rfl Try.fl29 rfl (by first | exact ((Hu.heldB 0 rfl h' Sx.off_No).nth rfl) | exact ((RB.at (Hu.ext.step h')).nth (j := 0) rfl))) ?_
    clear hT; intro a hT
    refine Sx.st_take hT rfl rfl rfl rfl (Sx.x_move hT rfl rfl) ?_
    clear hT; intro a hT
    refine Sx.st_take hT rfl rfl rfl rfl (Sx.x_index (k := i) hT rfl Try.underlying29 Try.ti35 (R.at H.ext).sv rfl rfl (by first | rfl | omega) (by omega)) ?_
    clear hT; intro a hT
    refine Sx.st_take hT rfl rfl rfl rfl (Sx.x_fieldAddr hT rfl Try.fa35_0 rfl) ?_
    clear hT; intro a hT
    refine Sx.st_held hT rfl rfl rfl rfl hH (fun w' h' => Sx.x_load1 hT rfl Try.fl3 rfl ((R.at (Hu.ext.step h')).cell (j := 0) Fr.len ho rfl)) ?_
    clear hT; intro a hT
    refine Sx.st_take hT rfl rfl rfl rfl (Sx.x_move hT rfl rfl) ?_
    clear hT; intro a hT
    refine Sx.st_take hT rfl rfl rfl rfl ((fun w => Sx.x_eq w hT rfl rfl rfl)) ?_
    clear hT; intro a hT
    refine Sx.st_take hT rfl rfl rfl rfl (Sx.x_move hT rfl rfl) ?_
    clear hT; intro a hT
    -- guard (4, 10)
    refine Sx.Sl.two hT 27 rfl (fun hc9 hT => ?_) (fun hc9 hT => ?_)
    · try simp only [decide_eq_true_eq, decide_eq_false_iff_not, Bool.not_eq_true', Bool.not_eq_false', Bool.not_eq_true, Bool.not_eq_false, Bool.and_eq_true, Bool.or_eq_false_iff, beq_iff_eq, bne_iff_ne, Int.not_lt, Int.not_le, ne_eq] at hc9
      have hrg : o.rg = id := hc9
      refine Sx.st_take hT rfl rfl rfl rfl (Sx.x_move hT rfl rfl) ?_
      clear hT; intro a hT
      refine Sx.st_take hT rfl rfl rfl rfl (Sx.x_nilCheck hT rfl rfl) ?_
      clear hT; intro a hT
      refine Sx.st_take hT rfl rfl rfl rfl (Sx.x_fieldAddr hT rfl Try.fa55_0 rfl) ?_
      clear hT; intro a hT
      refine Sx.st_held hT rfl rfl rfl rfl hH (fun w' h' => Sx.x_load1 hT rfl Try.fl29 rfl (by first | exact ((Hu.heldB 0 rfl h' Sx.off_No).nth rfl) | exact ((RB.at (Hu.ext.step h')).nth (j := 0) rfl))) ?_
      clear hT; intro a hT
      refine Sx.st_take hT rfl rfl rfl rfl (Sx.x_move hT rfl rfl) ?_
      clear hT; intro a hT
      refine Sx.st_take hT rfl rfl rfl rfl (Sx.x_index (k := i) hT rfl Try.underlying29 Try.ti35 (R.at H.ext).sv rfl rfl (by first | rfl | omega) (by omega)) ?_
      clear hT; intro a hT
      refine Sx.st_take hT rfl rfl rfl rfl (Sx.x_fieldAddr hT rfl Try.fa35_2 rfl) ?_
      clear hT; intro a hT
      refine Sx.st_held hT rfl rfl rfl rfl hH (fun w' h' => Sx.y_loadS hT rfl Try.underlying32 Try.ti32 rfl ((((R.at (Hu.ext.step h')).cs Fr.len ho).seg (i := 2) (k := 3) rfl)) (by rfl)) ?_
      clear hT; intro a hT
      refine Sx.st_held hT rfl rfl rfl rfl hH (fun w' h' => Sx.y_loadS hT rfl Try.underlying32 Try.ti32 rfl ((Hu.heldB 0 rfl h' Sx.off_No).seg (k := 3) rfl) (by rfl)) ?_
      clear hT; intro a hT
      refine Sx.st_take hT rfl rfl rfl rfl (Sx.x_eqS hT rfl (by kernel_rfl) (Try.eq32 _ _ _ _ _ _) rfl rfl rfl) ?_
      clear hT; intro a hT
      refine Sx.st_take hT rfl rfl rfl rfl (Sx.x_pick_t hT rfl rfl rfl) ?_
      clear hT; intro a hT
      replace hT := hT.keep [38, 14, 7, 5, 0, 1, 2] rfl
      clear Hu hH
      refine Sx.ser_calm ?_
      refine Sx.then_normal (hK8 _ _ ?_)
      clear hK8
      -- cond 1
      refine Sx.wp_if hT rfl (fun hc10 => ?_) (fun hc10 => ?_)
      · try simp only [decide_eq_true_eq, decide_eq_false_iff_not, Bool.not_eq_true', Bool.not_eq_false', Bool.not_eq_true, Bool.not_eq_false, Bool.and_eq_true, Bool.or_eq_false_iff, beq_iff_eq, bne_iff_ne, Int.not_lt, Int.not_le, ne_eq] at hc10
        have hyes : o.rg = id ∧ o.t = t := ⟨hrg, by rw [tn_iff]; simpa using hc10⟩
        refine wp_seq_k fun K11 hK11 => ?_
        -- region 5 (ref.go:59)
        refine Sx.wp_text [(0, .take)] rfl ?_
        refine Sx.st_take hT rfl rfl rfl rfl (Sx.x_assign hT rfl rfl) ?_
        clear hT; intro a hT
        replace hT := hT.keep [6, 38, 14, 7, 5, 0, 1, 2] rfl
        refine Sx.ser_nil ?_
        refine Sx.then_normal (hK11 _ _ ?_)
        clear hK11
        refine wp_ret ?_
        refine Sx.block_ret ?_
        refine Sx.then_ret ?_
        refine Sx.then_ret ?_
        refine Sx.block_ret ?_
        refine Sx.then_ret ?_
        refine Sx.done1 (fn := Try.f24) hT rfl (.tmp (hT.get 6 _ rfl)) ?_
        refine ⟨ret_b ?_, H.ext⟩
        unfold hasF
        rw [List.any_map]
        exact (List.any_eq_true.2 ⟨o, hom, decide_eq_true hyes⟩).symm
      · try simp only [decide_eq_true_eq, decide_eq_false_iff_not, Bool.not_eq_true', Bool.not_eq_false', Bool.not_eq_true, Bool.not_eq_false, Bool.and_eq_true, Bool.or_eq_false_iff, beq_iff_eq, bne_iff_ne, Int.not_lt, Int.not_le, ne_eq] at hc10
        have hno : ¬ (o.rg = id ∧ o.t = t) := fun h9 => by have h8 := tn_iff.1 h9.2; simp_all
        refine wp_skip ?_
        refine Sx.block_normal ?_
        refine Sx.then_normal (hK7 _ _ ?_)
        clear hK7
        -- region 3 (ref.go:57)
        refine Sx.wp_text [(0, .take), (1, .take), (2, .take)] rfl ?_
        refine Sx.st_take hT rfl rfl rfl rfl (Sx.x_move hT rfl rfl) ?_
        clear hT; intro a hT
        refine Sx.st_take hT rfl rfl rfl rfl ((fun w => Sx.x_add w hT rfl rfl rfl (Sx.wrap64 (by omega)))) ?_
        clear hT; intro a hT
        refine Sx.st_take hT rfl rfl rfl rfl (Sx.x_assign hT rfl rfl) ?_
        clear hT; intro a hT
        replace hT := hT.keep [7, 38, 14, 5, 0, 1, 2] rfl
        refine Sx.ser_nil ?_
        refine Sx.then_normal ?_
        exact ⟨i + 1, ⟨by omega, fun k q h3 h4 => by rcases Nat.lt_or_ge k i with h5 | h5; exact hnp k q h5 h4; obtain rfl : k = i := (by omega); rw [ho] at h4; cases h4; exact hno⟩, (hT.keep [7, 5, 0, 1, 2] rfl), (H.keep [0] rfl rfl), by omega⟩
    · try simp only [decide_eq_true_eq, decide_eq_false_iff_not, Bool.not_eq_true', Bool.not_eq_false', Bool.not_eq_true, Bool.not_eq_false, Bool.and_eq_true, Bool.or_eq_false_iff, beq_iff_eq, bne_iff_ne, Int.not_lt, Int.not_le, ne_eq] at hc9
      have hno : ¬ (o.rg = id ∧ o.t = t) := fun h9 => hc9 h9.1
      refine Sx.st_skip hT rfl rfl rfl rfl ?_
      clear hT; intro a hT
      refine Sx.st_skip hT rfl rfl rfl rfl ?_
      clear hT; intro a hT
      refine Sx.st_skip hT rfl rfl rfl rfl ?_
      clear hT; intro a hT
      refine Sx.st_heldskip hT rfl rfl rfl rfl hH ?_
      clear hT; intro a hT
      refine Sx.st_skip hT rfl rfl rfl rfl ?_
      clear hT; intro a hT
      refine Sx.st_skip hT rfl rfl rfl rfl ?_
      clear hT; intro a hT
      refine Sx.st_skip hT rfl rfl rfl rfl ?_
      clear hT; intro a hT
      refine Sx.st_heldskip hT rfl rfl rfl rfl hH ?_
      clear hT; intro a hT
      refine Sx.st_heldskip hT rfl rfl rfl rfl hH ?_
      clear hT; intro a hT
      refine Sx.st_skip hT rfl rfl rfl rfl ?_
      clear hT; intro a hT
      refine Sx.st_take hT rfl rfl rfl rfl (Sx.x_pick_f hT rfl rfl rfl) ?_
      clear hT; intro a hT
      replace hT := hT.keep [38, 14, 7, 5, 0, 1, 2] rfl
      clear Hu hH
      refine Sx.ser_calm ?_
      refine Sx.then_normal (hK8 _ _ ?_)
      clear hK8
      refine Sx.wp_if hT rfl (fun h => by cases h) (fun _ => ?_)
      skip
      refine wp_skip ?_
      refine Sx.block_normal ?_
      refine Sx.then_normal (hK7 _ _ ?_)
      clear hK7
      -- region 3 (ref.go:57)
      refine Sx.wp_text [(0, .take), (1, .take), (2, .take)] rfl ?_
      refine Sx.st_take hT rfl rfl rfl rfl (Sx.x_move hT rfl rfl) ?_
      clear hT; intro a hT
      refine Sx.st_take hT rfl rfl rfl rfl ((fun w => Sx.x_add w hT rfl rfl rfl (Sx.wrap64 (by omega)))) ?_
      clear hT; intro a hT
      refine Sx.st_take hT rfl rfl rfl rfl (Sx.x_assign hT rfl rfl) ?_
      clear hT; intro a hT
      replace hT := hT.keep [7, 38, 14, 5, 0, 1, 2] rfl
      refine Sx.ser_nil ?_
      refine Sx.then_normal ?_
      exact ⟨i + 1, ⟨by omega, fun k q h3 h4 => by rcases Nat.lt_or_ge k i with h5 | h5; exact hnp k q h5 h4; obtain rfl : k = i := (by omega); rw [ho] at h4; cases h4; exact hno⟩, (hT.keep [7, 5, 0, 1, 2] rfl), (H.keep [0] rfl rfl), by omega⟩
  · try simp only [decide_eq_true_eq, decide_eq_false_iff_not, Bool.not_eq_true', Bool.not_eq_false', Bool.not_eq_true, Bool.not_eq_false, Bool.and_eq_true, Bool.or_eq_false_iff, beq_iff_eq, bne_iff_ne, Int.not_lt, Int.not_le, ne_eq] at hc6
    refine wp_exit ?_
    refine Sx.then_exit ?_
    refine Sx.then_exit ?_
    refine Sx.block_exit ?_
    refine Sx.then_normal (hK2 _ _ ?_)
    clear hK2
    refine wp_seq_k fun K12 hK12 => ?_
    -- region 6 (ref.go:62)
    refine Sx.wp_text [(0, .take)] rfl ?_
    refine Sx.st_take hT rfl rfl rfl rfl (Sx.x_assign hT rfl rfl) ?_
    clear hT; intro a hT
    replace hT := hT.keep [6, 14, 7, 5, 0, 1, 2] rfl
    refine Sx.ser_nil ?_
    refine Sx.then_normal (hK12 _ _ ?_)
    clear hK12
    refine wp_ret ?_
    refine Sx.done1 (fn := Try.f24) hT rfl (.tmp (hT.get 6 _ rfl)) ?_
    refine ⟨ret_b ?_, H.ext⟩
    unfold hasF
    rw [List.any_map]
    refine (List.any_eq_false.2 fun q hq h9 => ?_).symm
    obtain ⟨k, hk⟩ := List.mem_iff_getElem?.1 hq
    exact hnp k q (by have := (List.getElem?_eq_some_iff.1 hk).1; omega) hk (of_decide_eq_true h9)

set_option maxHeartbeats 2000000 in
theorem xAdd_calls {S : Nat → Prop} {p : Nat} {ad0 ad : Option Addr} {c : Nat} {L : List Fr} (x : Fr) {w : World} (H : Hp w S w [cB p [.slice ad (List.length L) c] 55, cQ ad0 ad c (L), cF 50 4 Fr.rw (L)]) (R : Ro w S fun u => Ss u x.ad Wt.cells 4 x.ws) (hl : x.ws.length ≤ 1000000) (hHd : Held (L.map Fr.p)) (hL : L.length ≤ 100000) : Calls Try.prog 20 #[.pointer (some ⟨p, 0, none⟩), .agg #[.int .i64 x.rg, .int .i64 x.at_, .int .i64 x.t.co, .int .i64 x.t.li, .int .i64 x.t.sq, .int .i64 x.s.w, .int .i64 x.s.l, .int .i64 x.s.n, .slice x.ad x.ws.length x.c]] w fun e w' => ∃ ad0' ad' c' L', e = .returned (.int .i64 (addE (L.map Fr.p) x.p)) ∧ Hp w S w' [cB p [.slice ad' (List.length L') c'] 55, cQ ad0' ad' c' (L'), cF 50 4 Fr.rw (L')] ∧ L'.map Fr.p = addL (L.map Fr.p) x.p := by
  refine Sx.calls_into Try.func20 rfl Try.ntmps20 rfl fun a hT => ?_
  replace hT := hT.keep [0, 1] rfl
  refine wp_seq_k fun K1 hK1 => ?_
  -- region 0 (ref.go:21)
  refine Sx.wp_text [(0, .run), (1, .take)] rfl ?_
  refine Sx.st_eff hT rfl rfl rfl rfl (Sx.y_box hT rfl rfl rfl _) ?_
  clear hT; rintro _ w1 ⟨b1, rfl, N⟩ a hT
  replace H := H.new N; clear N
  refine Sx.st_take hT rfl rfl rfl rfl (Sx.x_assign hT rfl rfl) ?_
  clear hT; intro a hT
  replace hT := hT.keep [4, 3, 0, 1] rfl
  refine Sx.ser_nil ?_
  refine Sx.then_normal (hK1 _ _ ?_)
  clear hK1
  refine wp_seq_k fun K2 hK2 => ?_
  refine wp_seq_k fun K3 hK3 => ?_
  -- region 1 (ref.go:22)
  refine Sx.wp_text [(0, .run), (1, .run), (2, .take)] rfl ?_
  refine Sx.st_run hT rfl rfl rfl rfl (Sx.y_loadS hT rfl Try.underlying35 Try.ti35 rfl ((H.blk 0 rfl).seg (k := 9) rfl) (by rfl)) ?_
  clear hT; intro a hT
  refine Sx.st_call hT rfl rfl rfl rfl rfl Try.can19 rfl (xSMay_calls x (R.at H.ext) hl) ?_
  rintro _ w2 ⟨rfl, E⟩
  refine ⟨_, rfl, ?_⟩
  clear hT; intro a hT
  replace H := H.pure E; clear E
  refine Sx.st_take hT rfl rfl rfl rfl (Sx.x_not hT rfl rfl) ?_
  clear hT; intro a hT
  replace hT := hT.keep [14, 4, 3, 0, 1] rfl
  refine Sx.ser_nil ?_
  refine Sx.then_normal (hK3 _ _ ?_)
  clear hK3
  -- cond 0
  refine Sx.wp_if hT rfl (fun hc4 => ?_) (fun hc4 => ?_)
  · try simp only [decide_eq_true_eq, decide_eq_false_iff_not, Bool.not_eq_true', Bool.not_eq_false', Bool.not_eq_true, Bool.not_eq_false, Bool.and_eq_true, Bool.or_eq_false_iff, beq_iff_eq, bne_iff_ne, Int.not_lt, Int.not_le, ne_eq] at hc4
    have hmy : mayF x.p = false := hc4
    refine wp_seq_k fun K5 hK5 => ?_
    -- region 2 (ref.go:23)
    refine Sx.wp_text [(0, .take)] rfl ?_
    refine Sx.st_take hT rfl rfl rfl rfl (Sx.x_assign hT rfl rfl) ?_
    clear hT; intro a hT
    replace hT := hT.keep [4, 14, 3, 0, 1] rfl
    refine Sx.ser_nil ?_
    refine Sx.then_normal (hK5 _ _ ?_)
    clear hK5
    refine wp_ret ?_
    refine Sx.then_ret ?_
    refine Sx.done1 (fn := Try.f20) hT rfl (.tmp (hT.get 4 _ rfl)) ?_
    have hadd : addE (L.map Fr.p) x.p = 4 := by unfold addE; exact if_pos hmy
    refine ⟨_, _, _, L, ?_, H.keep [1, 2, 3] rfl rfl, ?_⟩
    · rw [hadd]
    · unfold addL; rw [if_neg (by rw [hadd]; decide)]
  · try simp only [decide_eq_true_eq, decide_eq_false_iff_not, Bool.not_eq_true', Bool.not_eq_false', Bool.not_eq_true, Bool.not_eq_false, Bool.and_eq_true, Bool.or_eq_false_iff, beq_iff_eq, bne_iff_ne, Int.not_lt, Int.not_le, ne_eq] at hc4
    have hmy : mayF x.p = true := hc4
    obtain ⟨hrx1, hrx2, hw1, hw16, hem⟩ := mayF_ok hmy
    have hwl : ∀ q ∈ L, q.ws.length ≤ 16 := fun q hq => (mayF_ok (hHd.may q.p (List.mem_map_of_mem hq))).2.2.2.1
    refine wp_skip ?_
    refine Sx.then_normal (hK2 _ _ ?_)
    clear hK2
    refine wp_seq_k fun K6 hK6 => ?_
    refine wp_seq_k fun K7 hK7 => ?_
    -- region 3 (ref.go:25)
    refine Sx.wp_text [(0, .take), (1, .take), (2, .run), (3, .take), (4, .run), (5, .run)] rfl ?_
    refine Sx.st_take hT rfl rfl rfl rfl (Sx.x_move hT rfl rfl) ?_
    clear hT; intro a hT
    refine Sx.st_take hT rfl rfl rfl rfl (Sx.x_fieldAddr hT rfl Try.fa35_0 rfl) ?_
    clear hT; intro a hT
    refine Sx.st_run hT rfl rfl rfl rfl (Sx.x_load1 hT rfl Try.fl3 rfl ((H.blk 0 rfl).nth rfl)) ?_
    clear hT; intro a hT
    refine Sx.st_take hT rfl rfl rfl rfl (Sx.x_fieldAddr hT rfl Try.fa35_2 rfl) ?_
    clear hT; intro a hT
    refine Sx.st_run hT rfl rfl rfl rfl (Sx.y_loadS hT rfl Try.underlying32 Try.ti32 rfl ((H.blk 0 rfl).seg (k := 3) rfl) (by rfl)) ?_
    clear hT; intro a hT
    refine Sx.st_call hT rfl rfl rfl rfl rfl Try.can24 rfl (xHas_calls L x.rg x.t (H.blk 1 rfl) ((H.at 2 rfl).1) (by omega)) ?_
    rintro _ w3 ⟨rfl, E⟩
    refine ⟨_, rfl, ?_⟩
    clear hT; intro a hT
    replace H := H.pure E; clear E
    replace hT := hT.keep [20, 14, 4, 3, 0, 1] rfl
    refine Sx.ser_nil ?_
    refine Sx.then_normal (hK7 _ _ ?_)
    clear hK7
    -- cond 1
    refine Sx.wp_if hT rfl (fun hc8 => ?_) (fun hc8 => ?_)
    · try simp only [decide_eq_true_eq, decide_eq_false_iff_not, Bool.not_eq_true', Bool.not_eq_false', Bool.not_eq_true, Bool.not_eq_false, Bool.and_eq_true, Bool.or_eq_false_iff, beq_iff_eq, bne_iff_ne, Int.not_lt, Int.not_le, ne_eq] at hc8
      have hhs : hasF (L.map Fr.p) x.rg x.t = true := hc8
      refine wp_seq_k fun K9 hK9 => ?_
      -- region 4 (ref.go:26)
      refine Sx.wp_text [(0, .take)] rfl ?_
      refine Sx.st_take hT rfl rfl rfl rfl (Sx.x_assign hT rfl rfl) ?_
      clear hT; intro a hT
      replace hT := hT.keep [4, 20, 14, 3, 0, 1] rfl
      refine Sx.ser_nil ?_
      refine Sx.then_normal (hK9 _ _ ?_)
      clear hK9
      refine wp_ret ?_
      refine Sx.then_ret ?_
      refine Sx.done1 (fn := Try.f20) hT rfl (.tmp (hT.get 4 _ rfl)) ?_
      have hadd : addE (L.map Fr.p) x.p = 9 := by unfold addE; rw [if_neg (by rw [hmy]; decide)]; exact if_pos hhs
      refine ⟨_, _, _, L, ?_, H.keep [1, 2, 3] rfl rfl, ?_⟩
      · rw [hadd]
      · unfold addL; rw [if_neg (by rw [hadd]; decide)]
    · try simp only [decide_eq_true_eq, decide_eq_false_iff_not, Bool.not_eq_true', Bool.not_eq_false', Bool.not_eq_true, Bool.not_eq_false, Bool.and_eq_true, Bool.or_eq_false_iff, beq_iff_eq, bne_iff_ne, Int.not_lt, Int.not_le, ne_eq] at hc8
      have hhs : hasF (L.map Fr.p) x.rg x.t = false := hc8
      refine wp_skip ?_
      refine Sx.then_normal (hK6 _ _ ?_)
      clear hK6
      refine wp_seq_k fun K10 hK10 => ?_
      refine wp_seq_k fun K11 hK11 => ?_
      -- region 5 (ref.go:28)
      refine Sx.wp_text [(0, .take)] rfl ?_
      refine Sx.st_take hT rfl rfl rfl rfl (Sx.x_assign hT rfl rfl) ?_
      clear hT; intro a hT
      replace hT := hT.keep [5, 20, 14, 4, 3, 0, 1] rfl
      refine Sx.ser_nil ?_
      refine Sx.then_normal (hK11 _ _ ?_)
      clear hK11
      refine wp_block ?_
      -- loop 0
      refine Sx.wp_loopH (G := Nat) (fun i => [(5, .int .i64 (i : Int))]) (fun i => []) (fun i => i ≤ L.length ∧ ∀ (t : Nat) q, t < i → L[t]? = some q → unlike q.p x.p = false) (fun i => L.length - i) 0 (hT.keep [5, 20, 14, 3, 0, 1] rfl) (H.keep [0, 1, 2, 3] rfl rfl) (⟨Nat.zero_le _, fun t q h => by omega⟩) ?_
      clear hT H
      rintro i a w4 hJ hT H
      replace hT := hT.keep [5, 20, 14, 3, 0, 1] rfl
      replace H := H.keep [0, 1, 2, 3] rfl rfl
      obtain ⟨hi0, hnu⟩ := hJ
      refine wp_seq_k fun K12 hK12 => ?_
      refine wp_seq_k fun K13 hK13 => ?_
      -- region 6 (ref.go:28)
      refine Sx.wp_text [(0, .take), (1, .take), (2, .take), (3, .take), (4, .run), (5, .take), (6, .take)] rfl ?_
      refine Sx.st_take hT rfl rfl rfl rfl (Sx.x_move hT rfl rfl) ?_
      clear hT; intro a hT
      refine Sx.st_take hT rfl rfl rfl rfl (Sx.x_move hT rfl rfl) ?_
      clear hT; intro a hT
      refine Sx.st_take hT rfl rfl rfl rfl (Sx.x_nilCheck hT rfl rfl) ?_
      clear hT; intro a hT
      refine Sx.st_take hT rfl rfl rfl rfl (Sx.x_fieldAddr hT rfl Try.fa55_0 rfl) ?_
      clear hT; intro a hT
      refine Sx.st_run hT rfl rfl rfl rfl (Sx.x_load1 hT rfl Try.fl29 rfl ((H.blk 1 rfl).nth rfl)) ?_
      clear hT; intro a hT
      refine Sx.st_take hT rfl rfl rfl rfl (Sx.x_len_slice hT rfl rfl Try.underlying29 rfl) ?_
      clear hT; intro a hT
      refine Sx.st_take hT rfl rfl rfl rfl ((fun w => Sx.x_lt w hT rfl rfl rfl)) ?_
      clear hT; intro a hT
      replace hT := hT.keep [27, 5, 20, 14, 3, 0, 1] rfl
      refine Sx.ser_nil ?_
      refine Sx.then_normal (hK13 _ _ ?_)
      clear hK13
      -- cond 2
      refine Sx.wp_if hT rfl (fun hc14 => ?_) (fun hc14 => ?_)
      · try simp only [decide_eq_true_eq, decide_eq_false_iff_not, Bool.not_eq_true', Bool.not_eq_false', Bool.not_eq_true, Bool.not_eq_false, Bool.and_eq_true, Bool.or_eq_false_iff, beq_iff_eq, bne_iff_ne, Int.not_lt, Int.not_le, ne_eq] at hc14
        obtain ⟨o, ho⟩ : ∃ o, L[i]? = some o := ⟨_, List.getElem?_eq_getElem (by omega)⟩
        have hom := List.mem_of_getElem? ho
        refine wp_skip ?_
        refine Sx.then_normal (hK12 _ _ ?_)
        clear hK12
        refine wp_seq_k fun K15 hK15 => ?_
        refine wp_block ?_
        refine wp_seq_k fun K16 hK16 => ?_
        -- region 8 (ref.go:29)
        refine Sx.wp_draws (fun u => Sx.Ext (Sx.No) u) [(0, .take), (1, .take), (2, .take), (3, .held), (4, .take), (5, .take), (6, .take), (7, .held), (8, .take), (9, .held), (10, .take), (11, .take), (12, .take), (13, .take), (14, .held), (15, .take), (16, .take), (17, .take), (18, .held), (19, .take), (20, .held), (21, .take), (22, .take)] (by kernel_rfl) (by kernel_rfl) (fun u E _ => ?_)
        replace H := H.pure E; clear E
        have hH : Sx.Ext (Sx.No) u u := Sx.Ext.refl _ _
        have Hu := H
        refine Sx.st_take hT rfl rfl rfl rfl (Sx.x_move hT rfl rfl) ?_
        clear hT; intro a hT
        refine Sx.st_take hT rfl rfl rfl rfl (Sx.x_nilCheck hT rfl rfl) ?_
        clear hT; intro a hT
        refine Sx.st_take hT rfl rfl rfl rfl (Sx.x_fieldAddr hT rfl Try.fa55_0 rfl) ?_
        clear hT; intro a hT
        refine Sx.st_held hT rfl rfl rfl rfl hH (fun w' h' => Sx.x_load1 hT rfl Try.fl29 rfl ((Hu.heldB 1 rfl h' Sx.off_No).nth rfl)) ?_
        clear hT; intro a hT
        refine Sx.st_take hT rfl rfl rfl rfl (Sx.x_move hT rfl rfl) ?_
        clear hT; intro a hT
        refine Sx.st_take hT rfl rfl rfl rfl (Sx.x_index (k := i) hT rfl Try.underlying29 Try.ti35 ((H.at 2 rfl).1).sv rfl rfl (by first | rfl | omega) (by omega)) ?_
        clear hT; intro a hT
        refine Sx.st_take hT rfl rfl rfl rfl (Sx.x_fieldAddr hT rfl Try.fa35_2 rfl) ?_
        clear hT; intro a hT
        refine Sx.st_held hT rfl rfl rfl rfl hH (fun w' h' => Sx.y_loadS hT rfl Try.underlying32 Try.ti32 rfl (((((Hu.held 2 rfl h' Sx.off_No).1).cs Fr.len ho).seg (i := 2) (k := 3) rfl)) (by rfl)) ?_
        clear hT; intro a hT
        refine Sx.st_take hT rfl rfl rfl rfl (Sx.x_fieldAddr hT rfl Try.fa35_2 rfl) ?_
        clear hT; intro a hT
        refine Sx.st_held hT rfl rfl rfl rfl hH (fun w' h' => Sx.y_loadS hT rfl Try.underlying32 Try.ti32 rfl ((Hu.heldB 0 rfl h' Sx.off_No).seg (k := 3) rfl) (by rfl)) ?_
        clear hT; intro a hT
        refine Sx.st_take hT rfl rfl rfl rfl (Sx.x_eqS hT rfl (by kernel_rfl) (Try.eq32 _ _ _ _ _ _) rfl rfl rfl) ?_
        clear hT; intro a hT
        refine Sx.st_take hT rfl rfl rfl rfl (Sx.x_move hT rfl rfl) ?_
        clear hT; intro a hT
        refine Sx.st_take hT rfl rfl rfl rfl (Sx.x_nilCheck hT rfl rfl) ?_
        clear hT; intro a hT
        refine Sx.st_take hT rfl rfl rfl rfl (Sx.x_fieldAddr hT rfl Try.fa55_0 rfl) ?_
        clear hT; intro a hT
        refine Sx.st_held hT rfl rfl rfl rfl hH (fun w' h' => Sx.x_load1 hT rfl Try.fl29 rfl ((Hu.heldB 1 rfl h' Sx.off_No).nth rfl)) ?_
        clear hT; intro a hT
        refine Sx.st_take hT rfl rfl rfl rfl (Sx.x_move hT rfl rfl) ?_
        clear hT; intro a hT
        refine Sx.st_take hT rfl rfl rfl rfl (Sx.x_index (k := i) hT rfl Try.underlying29 Try.ti35 ((H.at 2 rfl).1).sv rfl rfl (by first | rfl | omega) (by omega)) ?_
        clear hT; intro a hT
        refine Sx.st_take hT rfl rfl rfl rfl (Sx.x_fieldAddr hT rfl Try.fa35_3 rfl) ?_
        clear hT; intro a hT
        refine Sx.st_held hT rfl rfl rfl rfl hH (fun w' h' => Sx.y_loadS hT rfl Try.underlying28 Try.ti28 rfl (((((Hu.held 2 rfl h' Sx.off_No).1).cs Fr.len ho).seg (i := 5) (k := 3) rfl)) (by rfl)) ?_
        clear hT; intro a hT
        refine Sx.st_take hT rfl rfl rfl rfl (Sx.x_fieldAddr hT rfl Try.fa35_3 rfl) ?_
        clear hT; intro a hT
        refine Sx.st_held hT rfl rfl rfl rfl hH (fun w' h' => Sx.y_loadS hT rfl Try.underlying28 Try.ti28 rfl ((Hu.heldB 0 rfl h' Sx.off_No).seg (k := 3) rfl) (by rfl)) ?_
        clear hT; intro a hT
        refine Sx.st_take hT rfl rfl rfl rfl (Sx.x_eqS hT rfl (by kernel_rfl) (Try.eq28 _ _ _ _ _ _) rfl rfl rfl) ?_
        clear hT; intro a hT
        refine Sx.st_take hT rfl rfl rfl rfl (Sx.x_neb hT rfl Try.underlying4 rfl rfl) ?_
        clear hT; intro a hT
        replace hT := hT.keep [52, 27, 5, 20, 14, 3, 0, 1] rfl
        clear Hu hH
        refine Sx.ser_calm ?_
        refine Sx.then_normal (hK16 _ _ ?_)
        clear hK16
        -- cond 3
        refine Sx.wp_if hT rfl (fun hc17 => ?_) (fun hc17 => ?_)
        · try simp only [decide_eq_true_eq, decide_eq_false_iff_not, Bool.not_eq_true', Bool.not_eq_false', Bool.not_eq_true, Bool.not_eq_false, Bool.and_eq_true, Bool.or_eq_false_iff, beq_iff_eq, bne_iff_ne, Int.not_lt, Int.not_le, ne_eq] at hc17
          have hun : unlike o.p x.p = true := by rw [unl_eq]; simpa using hc17
          refine wp_seq_k fun K18 hK18 => ?_
          -- region 9 (ref.go:30)
          refine Sx.wp_text [(0, .take)] rfl ?_
          refine Sx.st_take hT rfl rfl rfl rfl (Sx.x_assign hT rfl rfl) ?_
          clear hT; intro a hT
          replace hT := hT.keep [4, 52, 27, 5, 20, 14, 3, 0, 1] rfl
          refine Sx.ser_nil ?_
          refine Sx.then_normal (hK18 _ _ ?_)
          clear hK18
          refine wp_ret ?_
          refine Sx.block_ret ?_
          refine Sx.then_ret ?_
          refine Sx.then_ret ?_
          refine Sx.block_ret ?_
          refine Sx.then_ret ?_
          refine Sx.done1 (fn := Try.f20) hT rfl (.tmp (hT.get 4 _ rfl)) ?_
          have hadd : addE (L.map Fr.p) x.p = 17 := by unfold addE; rw [if_neg (by rw [hmy]; decide), if_neg (by rw [show hasF (L.map Fr.p) x.p.rg x.p.t = false from hhs]; decide)]; exact if_pos (by rw [List.any_map]; exact List.any_eq_true.2 ⟨o, hom, hun⟩)
          refine ⟨_, _, _, L, ?_, H.keep [1, 2, 3] rfl rfl, ?_⟩
          · rw [hadd]
          · unfold addL; rw [if_neg (by rw [hadd]; decide)]
        · try simp only [decide_eq_true_eq, decide_eq_false_iff_not, Bool.not_eq_true', Bool.not_eq_false', Bool.not_eq_true, Bool.not_eq_false, Bool.and_eq_true, Bool.or_eq_false_iff, beq_iff_eq, bne_iff_ne, Int.not_lt, Int.not_le, ne_eq] at hc17
          have hun : unlike o.p x.p = false := by rw [unl_eq]; simpa using hc17
          refine wp_skip ?_
          refine Sx.block_normal ?_
          refine Sx.then_normal (hK15 _ _ ?_)
          clear hK15
          -- region 7 (ref.go:28)
          refine Sx.wp_text [(0, .take), (1, .take), (2, .take)] rfl ?_
          refine Sx.st_take hT rfl rfl rfl rfl (Sx.x_move hT rfl rfl) ?_
          clear hT; intro a hT
          refine Sx.st_take hT rfl rfl rfl rfl ((fun w => Sx.x_add w hT rfl rfl rfl (Sx.wrap64 (by omega)))) ?_
          clear hT; intro a hT
          refine Sx.st_take hT rfl rfl rfl rfl (Sx.x_assign hT rfl rfl) ?_
          clear hT; intro a hT
          replace hT := hT.keep [5, 52, 27, 20, 14, 3, 0, 1] rfl
          refine Sx.ser_nil ?_
          refine Sx.then_normal ?_
          exact ⟨i + 1, ⟨by omega, fun t q h3 h4 => by rcases Nat.lt_or_ge t i with h5 | h5; exact hnu t q h5 h4; obtain rfl : t = i := (by omega); rw [ho] at h4; cases h4; exact hun⟩, (hT.keep [5, 20, 14, 3, 0, 1] rfl), (H.keep [0, 1, 2, 3] rfl rfl), by omega⟩
      · try simp only [decide_eq_true_eq, decide_eq_false_iff_not, Bool.not_eq_true', Bool.not_eq_false', Bool.not_eq_true, Bool.not_eq_false, Bool.and_eq_true, Bool.or_eq_false_iff, beq_iff_eq, bne_iff_ne, Int.not_lt, Int.not_le, ne_eq] at hc14
        have hil : i = L.length := by omega
        have hnun : ((L.map Fr.p).any fun h => unlike h x.p) = false := by rw [List.any_map, List.any_eq_false]; intro q hq; obtain ⟨t, ht⟩ := List.mem_iff_getElem?.1 hq; have := hnu t q (by have := (List.getElem?_eq_some_iff.1 ht).1; omega) ht; simpa using this
        refine wp_exit ?_
        refine Sx.then_exit ?_
        refine Sx.then_exit ?_
        refine Sx.block_exit ?_
        refine Sx.then_normal (hK10 _ _ ?_)
        clear hK10
        refine wp_seq_k fun K19 hK19 => ?_
        refine wp_seq_k fun K20 hK20 => ?_
        -- region 10 (ref.go:33)
        refine Sx.wp_text [(0, .take)] rfl ?_
        refine Sx.st_take hT rfl rfl rfl rfl (Sx.x_assign hT rfl rfl) ?_
        clear hT; intro a hT
        replace hT := hT.keep [6, 27, 5, 20, 14, 3, 0, 1] rfl
        refine Sx.ser_nil ?_
        refine Sx.then_normal (hK20 _ _ ?_)
        clear hK20
        refine wp_block ?_
        -- loop 1
        refine Sx.wp_loopH (G := Nat) (fun i => [(6, .int .i64 (i : Int))]) (fun i => []) (fun i => i ≤ L.length ∧ ∀ (t : Nat) q, t < i → L[t]? = some q → (decide (q.t = x.t) && meetF q.ws x.ws) = false) (fun i => L.length - i) 0 (hT.keep [6, 27, 5, 20, 14, 3, 0, 1] rfl) (H.keep [0, 1, 2, 3] rfl rfl) (⟨Nat.zero_le _, fun t q h => by omega⟩) ?_
        clear hT H
        rintro i a w5 hJ hT H
        replace hT := hT.keep [6, 27, 5, 20, 14, 3, 0, 1] rfl
        replace H := H.keep [0, 1, 2, 3] rfl rfl
        obtain ⟨hi1, hnm⟩ := hJ
        refine wp_seq_k fun K21 hK21 => ?_
        refine wp_seq_k fun K22 hK22 => ?_
        -- region 11 (ref.go:33)
        refine Sx.wp_text [(0, .take), (1, .take), (2, .take), (3, .take), (4, .run), (5, .take), (6, .take)] rfl ?_
        refine Sx.st_take hT rfl rfl rfl rfl (Sx.x_move hT rfl rfl) ?_
        clear hT; intro a hT
        refine Sx.st_take hT rfl rfl rfl rfl (Sx.x_move hT rfl rfl) ?_
        clear hT; intro a hT
        refine Sx.st_take hT rfl rfl rfl rfl (Sx.x_nilCheck hT rfl rfl) ?_
        clear hT; intro a hT
        refine Sx.st_take hT rfl rfl rfl rfl (Sx.x_fieldAddr hT rfl Try.fa55_0 rfl) ?_
        clear hT; intro a hT
        refine Sx.st_run hT rfl rfl rfl rfl (Sx.x_load1 hT rfl Try.fl29 rfl ((H.blk 1 rfl).nth rfl)) ?_
        clear hT; intro a hT
        refine Sx.st_take hT rfl rfl rfl rfl (Sx.x_len_slice hT rfl rfl Try.underlying29 rfl) ?_
        clear hT; intro a hT
        refine Sx.st_take hT rfl rfl rfl rfl ((fun w => Sx.x_lt w hT rfl rfl rfl)) ?_
        clear hT; intro a hT
        replace hT := hT.keep [59, 6, 27, 5, 20, 14, 3, 0, 1] rfl
        refine Sx.ser_nil ?_
        refine Sx.then_normal (hK22 _ _ ?_)
        clear hK22
        -- cond 4
        refine Sx.wp_if hT rfl (fun hc23 => ?_) (fun hc23 => ?_)
        · try simp only [decide_eq_true_eq, decide_eq_false_iff_not, Bool.not_eq_true', Bool.not_eq_false', Bool.not_eq_true, Bool.not_eq_false, Bool.and_eq_true, Bool.or_eq_false_iff, beq_iff_eq, bne_iff_ne, Int.not_lt, Int.not_le, ne_eq] at hc23
          obtain ⟨o, ho⟩ : ∃ o, L[i]? = some o := ⟨_, List.getElem?_eq_getElem (by omega)⟩
          have hom := List.mem_of_getElem? ho
          have how := hwl o hom
          refine wp_skip ?_
          refine Sx.then_normal (hK21 _ _ ?_)
          clear hK21
          refine wp_seq_k fun K24 hK24 => ?_
          refine wp_block ?_
          refine wp_seq_k fun K25 hK25 => ?_
          -- region 13 (ref.go:34)
          refine Sx.wp_text [(0, .take)] rfl ?_
          refine Sx.st_take hT rfl rfl rfl rfl (Sx.x_assign hT rfl rfl) ?_
          clear hT; intro a hT
          replace hT := hT.keep [7, 59, 6, 27, 5, 20, 14, 3, 0, 1] rfl
          refine Sx.ser_nil ?_
          refine Sx.then_normal (hK25 _ _ ?_)
          clear hK25
          refine wp_block ?_
          -- loop 2
          refine Sx.wp_loopH (G := Nat) (fun k => [(7, .int .i64 (k : Int))]) (fun k => []) (fun k => k ≤ o.ws.length ∧ ∀ (t : Nat) u, t < k → o.ws[t]? = some u → ∀ v ∈ x.ws, u.key ≠ v.key) (fun k => o.ws.length - k) 0 (hT.keep [7, 59, 6, 27, 5, 20, 14, 3, 0, 1] rfl) (H.keep [0, 1, 2, 3] rfl rfl) (⟨Nat.zero_le _, fun t q h => by omega⟩) ?_
          clear hT H
          rintro k a w6 hJ hT H
          replace hT := hT.keep [7, 59, 6, 27, 5, 20, 14, 3, 0, 1] rfl
          replace H := H.keep [0, 1, 2, 3] rfl rfl
          obtain ⟨hk, hnk⟩ := hJ
          refine wp_seq_k fun K26 hK26 => ?_
          refine wp_seq_k fun K27 hK27 => ?_
          -- region 14 (ref.go:34)
          refine Sx.wp_draws (fun u => Sx.Ext (Sx.No) u) [(0, .take), (1, .take), (2, .take), (3, .take), (4, .held), (5, .take), (6, .take), (7, .take), (8, .held), (9, .take), (10, .take), (11, .take), (12, .take), (13, .take), (14, .take), (15, .held), (16, .take), (17, .take), (18, .take), (19, .held), (20, .take), (21, .held), (22, .take), (23, .take)] (by kernel_rfl) (by kernel_rfl) (fun u E _ => ?_)
          replace H := H.pure E; clear E
          have hH : Sx.Ext (Sx.No) u u := Sx.Ext.refl _ _
          have Hu := H
          refine Sx.st_take hT rfl rfl rfl rfl (Sx.x_move hT rfl rfl) ?_
          clear hT; intro a hT
          refine Sx.st_take hT rfl rfl rfl rfl (Sx.x_move hT rfl rfl) ?_
          clear hT; intro a hT
          refine Sx.st_take hT rfl rfl rfl rfl (Sx.x_nilCheck hT rfl rfl) ?_
          clear hT; intro a hT
          refine Sx.st_take hT rfl rfl rfl rfl (Sx.x_fieldAddr hT rfl Try.fa55_0 rfl) ?_
          clear hT; intro a hT
          refine Sx.st_held hT rfl rfl rfl rfl hH (fun w' h' => Sx.x_load1 hT rfl Try.fl29 rfl ((Hu.heldB 1 rfl h' Sx.off_No).nth rfl)) ?_
          clear hT; intro a hT
          refine Sx.st_take hT rfl rfl rfl rfl (Sx.x_move hT rfl rfl) ?_
          clear hT; intro a hT
          refine Sx.st_take hT rfl rfl rfl rfl (Sx.x_index (k := i) hT rfl Try.underlying29 Try.ti35 ((H.at 2 rfl).1).sv rfl rfl (by first | rfl | omega) (by omega)) ?_
          clear hT; intro a hT
          refine Sx.st_take hT rfl rfl rfl rfl (Sx.x_fieldAddr hT rfl Try.fa35_4 rfl) ?_
          clear hT; intro a hT
          refine Sx.st_held hT rfl rfl rfl rfl hH (fun w' h' => Sx.x_load1 hT rfl Try.fl33 rfl (((Hu.held 2 rfl h' Sx.off_No).1).cell (j := 8) Fr.len ho rfl)) ?_
          clear hT; intro a hT
          refine Sx.st_take hT rfl rfl rfl rfl (Sx.x_len_slice hT rfl rfl Try.underlying33 rfl) ?_
          clear hT; intro a hT
          refine Sx.st_take hT rfl rfl rfl rfl ((fun w => Sx.x_lt w hT rfl rfl rfl)) ?_
          clear hT; intro a hT
          refine Sx.st_take hT rfl rfl rfl rfl (Sx.x_move hT rfl rfl) ?_
          clear hT; intro a hT
          -- guard (14, 11)
          refine Sx.Sl.two hT 73 rfl (fun hc28 hT => ?_) (fun hc28 hT => ?_)
          · try simp only [decide_eq_true_eq, decide_eq_false_iff_not, Bool.not_eq_true', Bool.not_eq_false', Bool.not_eq_true, Bool.not_eq_false, Bool.and_eq_true, Bool.or_eq_false_iff, beq_iff_eq, bne_iff_ne, Int.not_lt, Int.not_le, ne_eq] at hc28
            refine Sx.st_take hT rfl rfl rfl rfl (Sx.x_move hT rfl rfl) ?_
            clear hT; intro a hT
            refine Sx.st_take hT rfl rfl rfl rfl (Sx.x_nilCheck hT rfl rfl) ?_
            clear hT; intro a hT
            refine Sx.st_take hT rfl rfl rfl rfl (Sx.x_fieldAddr hT rfl Try.fa55_0 rfl) ?_
            clear hT; intro a hT
            refine Sx.st_held hT rfl rfl rfl rfl hH (fun w' h' => Sx.x_load1 hT rfl Try.fl29 rfl ((Hu.heldB 1 rfl h' Sx.off_No).nth rfl)) ?_
            clear hT; intro a hT
            refine Sx.st_take hT rfl rfl rfl rfl (Sx.x_move hT rfl rfl) ?_
            clear hT; intro a hT
            refine Sx.st_take hT rfl rfl rfl rfl (Sx.x_index (k := i) hT rfl Try.underlying29 Try.ti35 ((H.at 2 rfl).1).sv rfl rfl (by first | rfl | omega) (by omega)) ?_
            clear hT; intro a hT
            refine Sx.st_take hT rfl rfl rfl rfl (Sx.x_fieldAddr hT rfl Try.fa35_2 rfl) ?_
            clear hT; intro a hT
            refine Sx.st_held hT rfl rfl rfl rfl hH (fun w' h' => Sx.y_loadS hT rfl Try.underlying32 Try.ti32 rfl (((((Hu.held 2 rfl h' Sx.off_No).1).cs Fr.len ho).seg (i := 2) (k := 3) rfl)) (by rfl)) ?_
            clear hT; intro a hT
            refine Sx.st_take hT rfl rfl rfl rfl (Sx.x_fieldAddr hT rfl Try.fa35_2 rfl) ?_
            clear hT; intro a hT
            refine Sx.st_held hT rfl rfl rfl rfl hH (fun w' h' => Sx.y_loadS hT rfl Try.underlying32 Try.ti32 rfl ((Hu.heldB 0 rfl h' Sx.off_No).seg (k := 3) rfl) (by rfl)) ?_
            clear hT; intro a hT
            refine Sx.st_take hT rfl rfl rfl rfl (Sx.x_eqS hT rfl (by kernel_rfl) (Try.eq32 _ _ _ _ _ _) rfl rfl rfl) ?_
            clear hT; intro a hT
            refine Sx.st_take hT rfl rfl rfl rfl (Sx.x_pick_t hT rfl rfl rfl) ?_
            clear hT; intro a hT
            replace hT := hT.keep [85, 7, 59, 6, 27, 5, 20, 14, 3, 0, 1] rfl
            clear Hu hH
            refine Sx.ser_calm ?_
            refine Sx.then_normal (hK27 _ _ ?_)
            clear hK27
            -- cond 5
            refine Sx.wp_if hT rfl (fun hc29 => ?_) (fun hc29 => ?_)
            · try simp only [decide_eq_true_eq, decide_eq_false_iff_not, Bool.not_eq_true', Bool.not_eq_false', Bool.not_eq_true, Bool.not_eq_false, Bool.and_eq_true, Bool.or_eq_false_iff, beq_iff_eq, bne_iff_ne, Int.not_lt, Int.not_le, ne_eq] at hc29
              have htq : o.t = x.t := by rw [tn_iff]; simpa using hc29
              obtain ⟨qu, hu⟩ : ∃ u9, o.ws[k]? = some u9 := ⟨_, List.getElem?_eq_getElem (by omega)⟩
              refine wp_skip ?_
              refine Sx.then_normal (hK26 _ _ ?_)
              clear hK26
              refine wp_seq_k fun K30 hK30 => ?_
              refine wp_block ?_
              refine wp_seq_k fun K31 hK31 => ?_
              -- region 16 (ref.go:35)
              refine Sx.wp_text [(0, .take)] rfl ?_
              refine Sx.st_take hT rfl rfl rfl rfl (Sx.x_assign hT rfl rfl) ?_
              clear hT; intro a hT
              replace hT := hT.keep [8, 85, 7, 59, 6, 27, 5, 20, 14, 3, 0, 1] rfl
              refine Sx.ser_nil ?_
              refine Sx.then_normal (hK31 _ _ ?_)
              clear hK31
              refine wp_block ?_
              -- loop 3
              refine Sx.wp_loopH (G := Nat) (fun j => [(8, .int .i64 (j : Int))]) (fun j => []) (fun j => j ≤ x.ws.length ∧ ∀ (t : Nat) v, t < j → x.ws[t]? = some v → v.key ≠ qu.key) (fun j => x.ws.length - j) 0 (hT.keep [8, 85, 7, 59, 6, 27, 5, 20, 14, 3, 0, 1] rfl) (H.keep [0, 1, 2, 3] rfl rfl) (⟨Nat.zero_le _, fun t q h => by omega⟩) ?_
              clear hT H
              rintro j a w7 hJ hT H
              replace hT := hT.keep [8, 85, 7, 59, 6, 27, 5, 20, 14, 3, 0, 1] rfl
              replace H := H.keep [0, 1, 2, 3] rfl rfl
              obtain ⟨hj, hnj⟩ := hJ
              refine wp_seq_k fun K32 hK32 => ?_
              refine wp_seq_k fun K33 hK33 => ?_
              -- region 17 (ref.go:35)
              refine Sx.wp_text [(0, .take), (1, .take), (2, .run), (3, .take), (4, .take)] rfl ?_
              refine Sx.st_take hT rfl rfl rfl rfl (Sx.x_move hT rfl rfl) ?_
              clear hT; intro a hT
              refine Sx.st_take hT rfl rfl rfl rfl (Sx.x_fieldAddr hT rfl Try.fa35_4 rfl) ?_
              clear hT; intro a hT
              refine Sx.st_run hT rfl rfl rfl rfl (Sx.x_load1 hT rfl Try.fl33 rfl ((H.blk 0 rfl).nth rfl)) ?_
              clear hT; intro a hT
              refine Sx.st_take hT rfl rfl rfl rfl (Sx.x_len_slice hT rfl rfl Try.underlying33 rfl) ?_
              clear hT; intro a hT
              refine Sx.st_take hT rfl rfl rfl rfl ((fun w => Sx.x_lt w hT rfl rfl rfl)) ?_
              clear hT; intro a hT
              replace hT := hT.keep [92, 8, 85, 7, 59, 6, 27, 5, 20, 14, 3, 0, 1] rfl
              refine Sx.ser_nil ?_
              refine Sx.then_normal (hK33 _ _ ?_)
              clear hK33
              -- cond 6
              refine Sx.wp_if hT rfl (fun hc34 => ?_) (fun hc34 => ?_)
              · try simp only [decide_eq_true_eq, decide_eq_false_iff_not, Bool.not_eq_true', Bool.not_eq_false', Bool.not_eq_true, Bool.not_eq_false, Bool.and_eq_true, Bool.or_eq_false_iff, beq_iff_eq, bne_iff_ne, Int.not_lt, Int.not_le, ne_eq] at hc34
                obtain ⟨v, hv⟩ : ∃ o, x.ws[j]? = some o := ⟨_, List.getElem?_eq_getElem (by omega)⟩
                refine wp_skip ?_
                refine Sx.then_normal (hK32 _ _ ?_)
                clear hK32
                refine wp_seq_k fun K35 hK35 => ?_
                refine wp_block ?_
                refine wp_seq_k fun K36 hK36 => ?_
                -- region 19 (ref.go:36)
                refine Sx.wp_draws (fun u => Sx.Ext (Sx.No) u) [(0, .take), (1, .held), (2, .take), (3, .take), (4, .take), (5, .held), (6, .take), (7, .take), (8, .take), (9, .held), (10, .take), (11, .take), (12, .take), (13, .held), (14, .take), (15, .take), (16, .take), (17, .held), (18, .take)] (by kernel_rfl) (by kernel_rfl) (fun u E _ => ?_)
                replace H := H.pure E; clear E
                have hH : Sx.Ext (Sx.No) u u := Sx.Ext.refl _ _
                have Hu := H
                refine Sx.st_take hT rfl rfl rfl rfl (Sx.x_fieldAddr hT rfl Try.fa35_4 rfl) ?_
                clear hT; intro a hT
                refine Sx.st_held hT rfl rfl rfl rfl hH (fun w' h' => Sx.x_load1 hT rfl Try.fl33 rfl ((Hu.heldB 0 rfl h' Sx.off_No).nth rfl)) ?_
                clear hT; intro a hT
                refine Sx.st_take hT rfl rfl rfl rfl (Sx.x_move hT rfl rfl) ?_
                clear hT; intro a hT
                refine Sx.st_take hT rfl rfl rfl rfl (Sx.x_index (k := j) hT rfl Try.underlying33 Try.ti50 (R.at H.ext).sv rfl rfl (by first | rfl | omega) (by omega)) ?_
                clear hT; intro a hT
                refine Sx.st_take hT rfl rfl rfl rfl (Sx.x_fieldAddr hT rfl Try.fa50_0 rfl) ?_
                clear hT; intro a hT
                refine Sx.st_held hT rfl rfl rfl rfl hH (fun w' h' => Sx.x_load1 hT rfl Try.fl9 rfl ((R.at (Hu.ext.step h')).cell (j := 0) Wt.len hv rfl)) ?_
                clear hT; intro a hT
                refine Sx.st_take hT rfl rfl rfl rfl (Sx.x_move hT rfl rfl) ?_
                clear hT; intro a hT
                refine Sx.st_take hT rfl rfl rfl rfl (Sx.x_nilCheck hT rfl rfl) ?_
                clear hT; intro a hT
                refine Sx.st_take hT rfl rfl rfl rfl (Sx.x_fieldAddr hT rfl Try.fa55_0 rfl) ?_
                clear hT; intro a hT
                refine Sx.st_held hT rfl rfl rfl rfl hH (fun w' h' => Sx.x_load1 hT rfl Try.fl29 rfl ((Hu.heldB 1 rfl h' Sx.off_No).nth rfl)) ?_
                clear hT; intro a hT
                refine Sx.st_take hT rfl rfl rfl rfl (Sx.x_move hT rfl rfl) ?_
                clear hT; intro a hT
                refine Sx.st_take hT rfl rfl rfl rfl (Sx.x_index (k := i) hT rfl Try.underlying29 Try.ti35 ((H.at 2 rfl).1).sv rfl rfl (by first | rfl | omega) (by omega)) ?_
                clear hT; intro a hT
                refine Sx.st_take hT rfl rfl rfl rfl (Sx.x_fieldAddr hT rfl Try.fa35_4 rfl) ?_
                clear hT; intro a hT
                refine Sx.st_held hT rfl rfl rfl rfl hH (fun w' h' => Sx.x_load1 hT rfl Try.fl33 rfl (((Hu.held 2 rfl h' Sx.off_No).1).cell (j := 8) Fr.len ho rfl)) ?_
                clear hT; intro a hT
                refine Sx.st_take hT rfl rfl rfl rfl (Sx.x_move hT rfl rfl) ?_
                clear hT; intro a hT
                refine Sx.st_take hT rfl rfl rfl rfl (Sx.x_index (k := k) hT rfl Try.underlying33 Try.ti50 ((fam_fr (H.fam 3 rfl) o hom)).sv rfl rfl (by first | rfl | omega) (by omega)) ?_
                clear hT; intro a hT
                refine Sx.st_take hT rfl rfl rfl rfl (Sx.x_fieldAddr hT rfl Try.fa50_0 rfl) ?_
                clear hT; intro a hT
                refine Sx.st_held hT rfl rfl rfl rfl hH (fun w' h' => Sx.x_load1 hT rfl Try.fl9 rfl ((fam_fr (Hu.heldF 3 rfl h' (fun _ _ _ h => h)) o hom).cell (j := 0) Wt.len hu rfl)) ?_
                clear hT; intro a hT
                refine Sx.st_take hT rfl rfl rfl rfl ((fun w => Sx.x_streq w hT rfl rfl rfl)) ?_
                clear hT; intro a hT
                replace hT := hT.keep [113, 92, 8, 85, 7, 59, 6, 27, 5, 20, 14, 3, 0, 1] rfl
                clear Hu hH
                refine Sx.ser_calm ?_
                refine Sx.then_normal (hK36 _ _ ?_)
                clear hK36
                -- cond 7
                refine Sx.wp_if hT rfl (fun hc37 => ?_) (fun hc37 => ?_)
                · try simp only [decide_eq_true_eq, decide_eq_false_iff_not, Bool.not_eq_true', Bool.not_eq_false', Bool.not_eq_true, Bool.not_eq_false, Bool.and_eq_true, Bool.or_eq_false_iff, beq_iff_eq, bne_iff_ne, Int.not_lt, Int.not_le, ne_eq] at hc37
                  have hvu : v.key = qu.key := by simpa using hc37
                  have hmt : (decide (o.t = x.t) && meetF o.ws x.ws) = true := by
                    rw [decide_eq_true htq, Bool.true_and]
                    exact List.any_eq_true.2 ⟨qu, List.mem_of_getElem? hu, List.any_eq_true.2 ⟨v, List.mem_of_getElem? hv, decide_eq_true hvu.symm⟩⟩
                  refine wp_seq_k fun K38 hK38 => ?_
                  -- region 20 (ref.go:37)
                  refine Sx.wp_text [(0, .take)] rfl ?_
                  refine Sx.st_take hT rfl rfl rfl rfl (Sx.x_assign hT rfl rfl) ?_
                  clear hT; intro a hT
                  replace hT := hT.keep [4, 113, 92, 8, 85, 7, 59, 6, 27, 5, 20, 14, 3, 0, 1] rfl
                  refine Sx.ser_nil ?_
                  refine Sx.then_normal (hK38 _ _ ?_)
                  clear hK38
                  refine wp_ret ?_
                  refine Sx.block_ret ?_
                  refine Sx.then_ret ?_
                  refine Sx.then_ret ?_
                  refine Sx.block_ret ?_
                  refine Sx.block_ret ?_
                  refine Sx.then_ret ?_
                  refine Sx.then_ret ?_
                  refine Sx.block_ret ?_
                  refine Sx.block_ret ?_
                  refine Sx.then_ret ?_
                  refine Sx.then_ret ?_
                  refine Sx.block_ret ?_
                  refine Sx.then_ret ?_
                  refine Sx.done1 (fn := Try.f20) hT rfl (.tmp (hT.get 4 _ rfl)) ?_
                  have hadd : addE (L.map Fr.p) x.p = 18 := by unfold addE; rw [if_neg (by rw [hmy]; decide), if_neg (by rw [show hasF (L.map Fr.p) x.p.rg x.p.t = false from hhs]; decide), if_neg (by rw [hnun]; decide)]; exact if_pos (by rw [List.any_map]; exact List.any_eq_true.2 ⟨o, hom, hmt⟩)
                  refine ⟨_, _, _, L, ?_, H.keep [1, 2, 3] rfl rfl, ?_⟩
                  · rw [hadd]
                  · unfold addL; rw [if_neg (by rw [hadd]; decide)]
                · try simp only [decide_eq_true_eq, decide_eq_false_iff_not, Bool.not_eq_true', Bool.not_eq_false', Bool.not_eq_true, Bool.not_eq_false, Bool.and_eq_true, Bool.or_eq_false_iff, beq_iff_eq, bne_iff_ne, Int.not_lt, Int.not_le, ne_eq] at hc37
                  have hnv : v.key ≠ qu.key := by simpa using hc37
                  refine wp_skip ?_
                  refine Sx.block_normal ?_
                  refine Sx.then_normal (hK35 _ _ ?_)
                  clear hK35
                  -- region 18 (ref.go:35)
                  refine Sx.wp_text [(0, .take), (1, .take), (2, .take)] rfl ?_
                  refine Sx.st_take hT rfl rfl rfl rfl (Sx.x_move hT rfl rfl) ?_
                  clear hT; intro a hT
                  refine Sx.st_take hT rfl rfl rfl rfl ((fun w => Sx.x_add w hT rfl rfl rfl (Sx.wrap64 (by omega)))) ?_
                  clear hT; intro a hT
                  refine Sx.st_take hT rfl rfl rfl rfl (Sx.x_assign hT rfl rfl) ?_
                  clear hT; intro a hT
                  replace hT := hT.keep [8, 113, 92, 85, 7, 59, 6, 27, 5, 20, 14, 3, 0, 1] rfl
                  refine Sx.ser_nil ?_
                  refine Sx.then_normal ?_
                  exact ⟨j + 1, ⟨by omega, fun t q h3 h4 => by rcases Nat.lt_or_ge t j with h5 | h5; exact hnj t q h5 h4; obtain rfl : t = j := (by omega); rw [hv] at h4; cases h4; exact hnv⟩, (hT.keep [8, 85, 7, 59, 6, 27, 5, 20, 14, 3, 0, 1] rfl), (H.keep [0, 1, 2, 3] rfl rfl), by omega⟩
              · try simp only [decide_eq_true_eq, decide_eq_false_iff_not, Bool.not_eq_true', Bool.not_eq_false', Bool.not_eq_true, Bool.not_eq_false, Bool.and_eq_true, Bool.or_eq_false_iff, beq_iff_eq, bne_iff_ne, Int.not_lt, Int.not_le, ne_eq] at hc34
                have hjl : j = x.ws.length := by omega
                have hnu1 : ∀ v ∈ x.ws, qu.key ≠ v.key := fun v hv h9 => by obtain ⟨t, ht⟩ := List.mem_iff_getElem?.1 hv; exact hnj t v (by have := (List.getElem?_eq_some_iff.1 ht).1; omega) ht h9.symm
                refine wp_exit ?_
                refine Sx.then_exit ?_
                refine Sx.then_exit ?_
                refine Sx.block_exit ?_
                refine Sx.block_normal ?_
                refine Sx.then_normal (hK30 _ _ ?_)
                clear hK30
                -- region 15 (ref.go:34)
                refine Sx.wp_text [(0, .take), (1, .take), (2, .take)] rfl ?_
                refine Sx.st_take hT rfl rfl rfl rfl (Sx.x_move hT rfl rfl) ?_
                clear hT; intro a hT
                refine Sx.st_take hT rfl rfl rfl rfl ((fun w => Sx.x_add w hT rfl rfl rfl (Sx.wrap64 (by omega)))) ?_
                clear hT; intro a hT
                refine Sx.st_take hT rfl rfl rfl rfl (Sx.x_assign hT rfl rfl) ?_
                clear hT; intro a hT
                replace hT := hT.keep [7, 92, 8, 85, 59, 6, 27, 5, 20, 14, 3, 0, 1] rfl
                refine Sx.ser_nil ?_
                refine Sx.then_normal ?_
                exact ⟨k + 1, ⟨by omega, fun t q h3 h4 => by rcases Nat.lt_or_ge t k with h5 | h5; exact hnk t q h5 h4; obtain rfl : t = k := (by omega); rw [hu] at h4; cases h4; exact hnu1⟩, (hT.keep [7, 59, 6, 27, 5, 20, 14, 3, 0, 1] rfl), (H.keep [0, 1, 2, 3] rfl rfl), by omega⟩
            · try simp only [decide_eq_true_eq, decide_eq_false_iff_not, Bool.not_eq_true', Bool.not_eq_false', Bool.not_eq_true, Bool.not_eq_false, Bool.and_eq_true, Bool.or_eq_false_iff, beq_iff_eq, bne_iff_ne, Int.not_lt, Int.not_le, ne_eq] at hc29
              have htq : o.t ≠ x.t := by rw [Ne, tn_iff]; simpa using hc29
              have hnm1 : (decide (o.t = x.t) && meetF o.ws x.ws) = false := by simp [htq]
              refine wp_exit ?_
              refine Sx.then_exit ?_
              refine Sx.then_exit ?_
              refine Sx.block_exit ?_
              refine Sx.block_normal ?_
              refine Sx.then_normal (hK24 _ _ ?_)
              clear hK24
              -- region 12 (ref.go:33)
              refine Sx.wp_text [(0, .take), (1, .take), (2, .take)] rfl ?_
              refine Sx.st_take hT rfl rfl rfl rfl (Sx.x_move hT rfl rfl) ?_
              clear hT; intro a hT
              refine Sx.st_take hT rfl rfl rfl rfl ((fun w => Sx.x_add w hT rfl rfl rfl (Sx.wrap64 (by omega)))) ?_
              clear hT; intro a hT
              refine Sx.st_take hT rfl rfl rfl rfl (Sx.x_assign hT rfl rfl) ?_
              clear hT; intro a hT
              replace hT := hT.keep [6, 85, 7, 59, 27, 5, 20, 14, 3, 0, 1] rfl
              refine Sx.ser_nil ?_
              refine Sx.then_normal ?_
              exact ⟨i + 1, ⟨by omega, fun t q h3 h4 => by rcases Nat.lt_or_ge t i with h5 | h5; exact hnm t q h5 h4; obtain rfl : t = i := (by omega); rw [ho] at h4; cases h4; exact hnm1⟩, (hT.keep [6, 27, 5, 20, 14, 3, 0, 1] rfl), (H.keep [0, 1, 2, 3] rfl rfl), by omega⟩
          · try simp only [decide_eq_true_eq, decide_eq_false_iff_not, Bool.not_eq_true', Bool.not_eq_false', Bool.not_eq_true, Bool.not_eq_false, Bool.and_eq_true, Bool.or_eq_false_iff, beq_iff_eq, bne_iff_ne, Int.not_lt, Int.not_le, ne_eq] at hc28
            refine Sx.st_skip hT rfl rfl rfl rfl ?_
            clear hT; intro a hT
            refine Sx.st_skip hT rfl rfl rfl rfl ?_
            clear hT; intro a hT
            refine Sx.st_skip hT rfl rfl rfl rfl ?_
            clear hT; intro a hT
            refine Sx.st_heldskip hT rfl rfl rfl rfl hH ?_
            clear hT; intro a hT
            refine Sx.st_skip hT rfl rfl rfl rfl ?_
            clear hT; intro a hT
            refine Sx.st_skip hT rfl rfl rfl rfl ?_
            clear hT; intro a hT
            refine Sx.st_skip hT rfl rfl rfl rfl ?_
            clear hT; intro a hT
            refine Sx.st_heldskip hT rfl rfl rfl rfl hH ?_
            clear hT; intro a hT
            refine Sx.st_skip hT rfl rfl rfl rfl ?_
            clear hT; intro a hT
            refine Sx.st_heldskip hT rfl rfl rfl rfl hH ?_
            clear hT; intro a hT
            refine Sx.st_skip hT rfl rfl rfl rfl ?_
            clear hT; intro a hT
            refine Sx.st_take hT rfl rfl rfl rfl (Sx.x_pick_f hT rfl rfl rfl) ?_
            clear hT; intro a hT
            replace hT := hT.keep [85, 7, 59, 6, 27, 5, 20, 14, 3, 0, 1] rfl
            clear Hu hH
            refine Sx.ser_calm ?_
            refine Sx.then_normal (hK27 _ _ ?_)
            clear hK27
            refine Sx.wp_if hT rfl (fun h => by cases h) (fun _ => ?_)
            have hkl : k = o.ws.length := by omega
            have hnm1 : (decide (o.t = x.t) && meetF o.ws x.ws) = false := by
              have h8 : meetF o.ws x.ws = false := by
                unfold meetF
                rw [List.any_eq_false]
                intro u hu h7
                obtain ⟨v, hv, h6⟩ := List.any_eq_true.1 h7
                obtain ⟨t, ht⟩ := List.mem_iff_getElem?.1 hu
                exact hnk t u (by have := (List.getElem?_eq_some_iff.1 ht).1; omega) ht v hv (of_decide_eq_true h6)
              simp [h8]
            refine wp_exit ?_
            refine Sx.then_exit ?_
            refine Sx.then_exit ?_
            refine Sx.block_exit ?_
            refine Sx.block_normal ?_
            refine Sx.then_normal (hK24 _ _ ?_)
            clear hK24
            -- region 12 (ref.go:33)
            refine Sx.wp_text [(0, .take), (1, .take), (2, .take)] rfl ?_
            refine Sx.st_take hT rfl rfl rfl rfl (Sx.x_move hT rfl rfl) ?_
            clear hT; intro a hT
            refine Sx.st_take hT rfl rfl rfl rfl ((fun w => Sx.x_add w hT rfl rfl rfl (Sx.wrap64 (by omega)))) ?_
            clear hT; intro a hT
            refine Sx.st_take hT rfl rfl rfl rfl (Sx.x_assign hT rfl rfl) ?_
            clear hT; intro a hT
            replace hT := hT.keep [6, 85, 7, 59, 27, 5, 20, 14, 3, 0, 1] rfl
            refine Sx.ser_nil ?_
            refine Sx.then_normal ?_
            exact ⟨i + 1, ⟨by omega, fun t q h3 h4 => by rcases Nat.lt_or_ge t i with h5 | h5; exact hnm t q h5 h4; obtain rfl : t = i := (by omega); rw [ho] at h4; cases h4; exact hnm1⟩, (hT.keep [6, 27, 5, 20, 14, 3, 0, 1] rfl), (H.keep [0, 1, 2, 3] rfl rfl), by omega⟩
        · try simp only [decide_eq_true_eq, decide_eq_false_iff_not, Bool.not_eq_true', Bool.not_eq_false', Bool.not_eq_true, Bool.not_eq_false, Bool.and_eq_true, Bool.or_eq_false_iff, beq_iff_eq, bne_iff_ne, Int.not_lt, Int.not_le, ne_eq] at hc23
          have hil2 : i = L.length := by omega
          have hnmt : ((L.map Fr.p).any fun h => decide (h.t = x.t) && meetF h.ws x.ws) = false := by rw [List.any_map, List.any_eq_false]; intro q hq; obtain ⟨t, ht⟩ := List.mem_iff_getElem?.1 hq; have h8 := hnm t q (by have := (List.getElem?_eq_some_iff.1 ht).1; omega) ht; show ¬ ((decide (q.t = x.t) && meetF q.ws x.ws) = true); rw [h8]; decide
          have hadd : addE (L.map Fr.p) x.p = 0 := by unfold addE; rw [if_neg (by rw [hmy]; decide), if_neg (by rw [show hasF (L.map Fr.p) x.p.rg x.p.t = false from hhs]; decide), if_neg (by rw [hnun]; decide)]; exact if_neg (by rw [show ((L.map Fr.p).any fun h => decide (h.t = x.p.t) && meetF h.ws x.p.ws) = false from hnmt]; decide)
          refine wp_exit ?_
          refine Sx.then_exit ?_
          refine Sx.then_exit ?_
          refine Sx.block_exit ?_
          refine Sx.then_normal (hK19 _ _ ?_)
          clear hK19
          refine wp_seq_k fun K39 hK39 => ?_
          -- region 21 (ref.go:42)
          refine Sx.wp_text [(0, .take)] rfl ?_
          refine Sx.st_take hT rfl rfl rfl rfl (Sx.x_assign hT rfl rfl) ?_
          clear hT; intro a hT
          replace hT := hT.keep [9, 59, 6, 27, 5, 20, 14, 3, 0, 1] rfl
          refine Sx.ser_nil ?_
          refine Sx.then_normal (hK39 _ _ ?_)
          clear hK39
          refine wp_seq_k fun K40 hK40 => ?_
          -- region 22 (ref.go:43)
          refine Sx.wp_text [(0, .take)] rfl ?_
          refine Sx.st_take hT rfl rfl rfl rfl (Sx.x_assign hT rfl rfl) ?_
          clear hT; intro a hT
          replace hT := hT.keep [10, 9, 59, 6, 27, 5, 20, 14, 3, 0, 1] rfl
          refine Sx.ser_nil ?_
          refine Sx.then_normal (hK40 _ _ ?_)
          clear hK40
          refine wp_seq_k fun K41 hK41 => ?_
          refine wp_block ?_
          replace H := H.nilR 35 9
          -- loop 4
          refine Sx.wp_loopH (G := Nat × Option Addr × Nat) (fun ⟨i, ad2, c2⟩ => [(10, .int .i64 (i : Int)), (9, .slice ad2 i c2)]) (fun ⟨i, ad2, c2⟩ => [cR 35 9 ad2 i c2 ((L.take i).flatMap Fr.cells)]) (fun ⟨i, ad2, c2⟩ => i ≤ L.length ∧ ∀ (t : Nat) q, t < i → L[t]? = some q → ltF q.p x.p) (fun ⟨i, ad2, c2⟩ => L.length - i) (0, none, 0) (hT.keep [10, 9, 59, 6, 27, 5, 20, 14, 3, 0, 1] rfl) (H.keep [0, 1, 2, 3, 4] rfl rfl) (⟨Nat.zero_le _, fun t q h => by omega⟩) ?_
          clear hT H
          rintro ⟨i, ad2, c2⟩ a w8 hJ hT H
          replace hT := hT.keep [10, 9, 59, 6, 27, 5, 20, 14, 3, 0, 1] rfl
          replace H := H.keep [0, 1, 2, 3, 4] rfl rfl
          obtain ⟨hi, hlt⟩ := hJ
          refine wp_seq_k fun K42 hK42 => ?_
          refine wp_seq_k fun K43 hK43 => ?_
          -- region 23 (ref.go:44)
          refine Sx.wp_draws (fun u => Sx.Ext (Sx.No) u) [(0, .take), (1, .take), (2, .take), (3, .take), (4, .held), (5, .take), (6, .take), (7, .take), (8, .take), (9, .take), (10, .take), (11, .held), (12, .take), (13, .take), (14, .take), (15, .held), (16, .take), (17, .held), (18, .keep), (19, .take), (20, .take), (21, .take), (22, .take), (23, .held), (24, .take), (25, .take), (26, .take), (27, .held), (28, .take), (29, .held), (30, .take), (31, .take), (32, .take), (33, .take), (34, .take), (35, .held), (36, .take), (37, .take), (38, .take), (39, .held), (40, .take), (41, .held), (42, .take), (43, .take), (44, .take), (45, .take)] (by kernel_rfl) (by kernel_rfl) (fun u E _ => ?_)
          replace H := H.pure E; clear E
          have hH : Sx.Ext (Sx.No) u u := Sx.Ext.refl _ _
          have Hu := H
          refine Sx.st_take hT rfl rfl rfl rfl (Sx.x_move hT rfl rfl) ?_
          clear hT; intro a hT
          refine Sx.st_take hT rfl rfl rfl rfl (Sx.x_move hT rfl rfl) ?_
          clear hT; intro a hT
          refine Sx.st_take hT rfl rfl rfl rfl (Sx.x_nilCheck hT rfl rfl) ?_
          clear hT; intro a hT
          refine Sx.st_take hT rfl rfl rfl rfl (Sx.x_fieldAddr hT rfl Try.fa55_0 rfl) ?_
          clear hT; intro a hT
          refine Sx.st_held hT rfl rfl rfl rfl hH (fun w' h' => Sx.x_load1 hT rfl Try.fl29 rfl ((Hu.heldB 2 rfl h' Sx.off_No).nth rfl)) ?_
          clear hT; intro a hT
          refine Sx.st_take hT rfl rfl rfl rfl (Sx.x_len_slice hT rfl rfl Try.underlying29 rfl) ?_
          clear hT; intro a hT
          refine Sx.st_take hT rfl rfl rfl rfl ((fun w => Sx.x_lt w hT rfl rfl rfl)) ?_
          clear hT; intro a hT
          refine Sx.st_take hT rfl rfl rfl rfl (Sx.x_move hT rfl rfl) ?_
          clear hT; intro a hT
          -- guard (23, 7)
          refine Sx.Sl.two hT 121 rfl (fun hc44 hT => ?_) (fun hc44 hT => ?_)
          · try simp only [decide_eq_true_eq, decide_eq_false_iff_not, Bool.not_eq_true', Bool.not_eq_false', Bool.not_eq_true, Bool.not_eq_false, Bool.and_eq_true, Bool.or_eq_false_iff, beq_iff_eq, bne_iff_ne, Int.not_lt, Int.not_le, ne_eq] at hc44
            obtain ⟨o, ho⟩ : ∃ o, L[i]? = some o := ⟨_, List.getElem?_eq_getElem (by omega)⟩
            have hom := List.mem_of_getElem? ho
            refine Sx.st_take hT rfl rfl rfl rfl (Sx.x_move hT rfl rfl) ?_
            clear hT; intro a hT
            refine Sx.st_take hT rfl rfl rfl rfl (Sx.x_nilCheck hT rfl rfl) ?_
            clear hT; intro a hT
            refine Sx.st_take hT rfl rfl rfl rfl (Sx.x_fieldAddr hT rfl Try.fa55_0 rfl) ?_
            clear hT; intro a hT
            refine Sx.st_held hT rfl rfl rfl rfl hH (fun w' h' => Sx.x_load1 hT rfl Try.fl29 rfl ((Hu.heldB 2 rfl h' Sx.off_No).nth rfl)) ?_
            clear hT; intro a hT
            refine Sx.st_take hT rfl rfl rfl rfl (Sx.x_move hT rfl rfl) ?_
            clear hT; intro a hT
            refine Sx.st_take hT rfl rfl rfl rfl (Sx.x_index (k := i) hT rfl Try.underlying29 Try.ti35 ((H.at 3 rfl).1).sv rfl rfl (by first | rfl | omega) (by omega)) ?_
            clear hT; intro a hT
            refine Sx.st_take hT rfl rfl rfl rfl (Sx.x_fieldAddr hT rfl Try.fa35_3 rfl) ?_
            clear hT; intro a hT
            refine Sx.st_held hT rfl rfl rfl rfl hH (fun w' h' => Sx.y_loadS hT rfl Try.underlying28 Try.ti28 rfl (((((Hu.held 3 rfl h' Sx.off_No).1).cs Fr.len ho).seg (i := 5) (k := 3) rfl)) (by rfl)) ?_
            clear hT; intro a hT
            refine Sx.st_take hT rfl rfl rfl rfl (Sx.x_fieldAddr hT rfl Try.fa35_3 rfl) ?_
            clear hT; intro a hT
            refine Sx.st_held hT rfl rfl rfl rfl hH (fun w' h' => Sx.y_loadS hT rfl Try.underlying28 Try.ti28 rfl ((Hu.heldB 1 rfl h' Sx.off_No).seg (k := 3) rfl) (by rfl)) ?_
            clear hT; intro a hT
            refine Sx.st_callkeep hT rfl rfl rfl rfl rfl Try.can10 rfl (Less_calls o.s x.s _) ?_
            rintro _ w9 ⟨rfl, E⟩
            refine ⟨_, rfl, hH.step E, ?_⟩
            replace hH := hH.step E
            clear hT; intro a hT
            replace H := H.pure E; clear E
            refine Sx.st_take hT rfl rfl rfl rfl (Sx.x_move hT rfl rfl) ?_
            clear hT; intro a hT
            -- guard (23, 19)
            refine Sx.Sl.two hT 133 rfl (fun hc45 hT => ?_) (fun hc45 hT => ?_)
            · try simp only [decide_eq_true_eq, decide_eq_false_iff_not, Bool.not_eq_true', Bool.not_eq_false', Bool.not_eq_true, Bool.not_eq_false, Bool.and_eq_true, Bool.or_eq_false_iff, beq_iff_eq, bne_iff_ne, Int.not_lt, Int.not_le, ne_eq] at hc45
              have hls : ltS o.s x.s := hc45
              refine Sx.st_skip hT rfl rfl rfl rfl ?_
              clear hT; intro a hT
              refine Sx.st_skip hT rfl rfl rfl rfl ?_
              clear hT; intro a hT
              refine Sx.st_skip hT rfl rfl rfl rfl ?_
              clear hT; intro a hT
              refine Sx.st_heldskip hT rfl rfl rfl rfl hH ?_
              clear hT; intro a hT
              refine Sx.st_skip hT rfl rfl rfl rfl ?_
              clear hT; intro a hT
              refine Sx.st_skip hT rfl rfl rfl rfl ?_
              clear hT; intro a hT
              refine Sx.st_skip hT rfl rfl rfl rfl ?_
              clear hT; intro a hT
              refine Sx.st_heldskip hT rfl rfl rfl rfl hH ?_
              clear hT; intro a hT
              refine Sx.st_skip hT rfl rfl rfl rfl ?_
              clear hT; intro a hT
              refine Sx.st_heldskip hT rfl rfl rfl rfl hH ?_
              clear hT; intro a hT
              refine Sx.st_skip hT rfl rfl rfl rfl ?_
              clear hT; intro a hT
              refine Sx.st_skip hT rfl rfl rfl rfl ?_
              clear hT; intro a hT
              refine Sx.st_skip hT rfl rfl rfl rfl ?_
              clear hT; intro a hT
              refine Sx.st_skip hT rfl rfl rfl rfl ?_
              clear hT; intro a hT
              refine Sx.st_skip hT rfl rfl rfl rfl ?_
              clear hT; intro a hT
              refine Sx.st_heldskip hT rfl rfl rfl rfl hH ?_
              clear hT; intro a hT
              refine Sx.st_skip hT rfl rfl rfl rfl ?_
              clear hT; intro a hT
              refine Sx.st_skip hT rfl rfl rfl rfl ?_
              clear hT; intro a hT
              refine Sx.st_skip hT rfl rfl rfl rfl ?_
              clear hT; intro a hT
              refine Sx.st_heldskip hT rfl rfl rfl rfl hH ?_
              clear hT; intro a hT
              refine Sx.st_skip hT rfl rfl rfl rfl ?_
              clear hT; intro a hT
              refine Sx.st_heldskip hT rfl rfl rfl rfl hH ?_
              clear hT; intro a hT
              refine Sx.st_skip hT rfl rfl rfl rfl ?_
              clear hT; intro a hT
              refine Sx.st_skip hT rfl rfl rfl rfl ?_
              clear hT; intro a hT
              refine Sx.st_take hT rfl rfl rfl rfl (Sx.x_pick_t hT rfl rfl rfl) ?_
              clear hT; intro a hT
              refine Sx.st_take hT rfl rfl rfl rfl (Sx.x_pick_t hT rfl rfl rfl) ?_
              clear hT; intro a hT
              replace hT := hT.keep [159, 10, 9, 59, 6, 27, 5, 20, 14, 3, 0, 1] rfl
              clear Hu hH
              refine Sx.ser_calm ?_
              refine Sx.then_normal (hK43 _ _ ?_)
              clear hK43
              refine Sx.wp_if hT rfl (fun _ => ?_) (fun h => by cases h)
              have hlt9 : ltF o.p x.p := .inl hls
              refine wp_skip ?_
              refine Sx.then_normal (hK42 _ _ ?_)
              clear hK42
              refine wp_block ?_
              refine wp_seq_k fun K46 hK46 => ?_
              -- region 24 (ref.go:45)
              refine Sx.wp_text [(0, .take), (1, .take), (2, .take), (3, .take), (4, .run), (5, .take), (6, .take), (7, .run), (8, .run), (9, .run), (10, .take)] rfl ?_
              refine Sx.st_take hT rfl rfl rfl rfl (Sx.x_move hT rfl rfl) ?_
              clear hT; intro a hT
              refine Sx.st_take hT rfl rfl rfl rfl (Sx.x_move hT rfl rfl) ?_
              clear hT; intro a hT
              refine Sx.st_take hT rfl rfl rfl rfl (Sx.x_nilCheck hT rfl rfl) ?_
              clear hT; intro a hT
              refine Sx.st_take hT rfl rfl rfl rfl (Sx.x_fieldAddr hT rfl Try.fa55_0 rfl) ?_
              clear hT; intro a hT
              refine Sx.st_run hT rfl rfl rfl rfl (Sx.x_load1 hT rfl Try.fl29 rfl ((H.blk 2 rfl).nth rfl)) ?_
              clear hT; intro a hT
              refine Sx.st_take hT rfl rfl rfl rfl (Sx.x_move hT rfl rfl) ?_
              clear hT; intro a hT
              refine Sx.st_take hT rfl rfl rfl rfl (Sx.x_index (k := i) hT rfl Try.underlying29 Try.ti35 ((H.at 3 rfl).1).sv rfl rfl (by first | rfl | omega) (by omega)) ?_
              clear hT; intro a hT
              refine Sx.st_run hT rfl rfl rfl rfl (Sx.y_loadS hT rfl Try.underlying35 Try.ti35 rfl (((((H.at 3 rfl).1).cs Fr.len ho).seg (i := 0) (k := 9) rfl)) (by rfl)) ?_
              clear hT; intro a hT
              refine Sx.st_eff hT rfl rfl rfl rfl (Sx.y_slice1 hT rfl Try.underlying29 Try.ti35 rfl rfl rfl rfl rfl rfl _) ?_
              clear hT; rintro _ w10 ⟨b2, rfl, N⟩ a hT
              replace H := H.new N; clear N
              refine Sx.st_eff hT rfl rfl rfl rfl (Sx.x_append hT rfl rfl Try.underlying29 Try.ti35 rfl (by decide) rfl rfl (H.row 1 rfl) ((H.blk 0 rfl).sv1 rfl) (Fr.one o) (fun h => by cases h) (by unfold maxLen; omega) (by omega)) ?_
              rintro _ w11 ⟨ad11, c11, rfl, hr, E, hown, -⟩
              clear hT; intro a hT
              replace H := H.setR 1 rfl hr E hown rfl; clear hr E hown
              rw [tk_g ho] at H
              refine Sx.st_take hT rfl rfl rfl rfl (Sx.x_assign hT rfl rfl) ?_
              clear hT; intro a hT
              replace hT := hT.keep [9, 159, 10, 59, 6, 27, 5, 20, 14, 3, 0, 1] rfl
              refine Sx.ser_nil ?_
              refine Sx.then_normal (hK46 _ _ ?_)
              clear hK46
              -- region 25 (ref.go:46)
              refine Sx.wp_text [(0, .take), (1, .take), (2, .take)] rfl ?_
              refine Sx.st_take hT rfl rfl rfl rfl (Sx.x_move hT rfl rfl) ?_
              clear hT; intro a hT
              refine Sx.st_take hT rfl rfl rfl rfl ((fun w => Sx.x_add w hT rfl rfl rfl (Sx.wrap64 (by omega)))) ?_
              clear hT; intro a hT
              refine Sx.st_take hT rfl rfl rfl rfl (Sx.x_assign hT rfl rfl) ?_
              clear hT; intro a hT
              replace hT := hT.keep [10, 9, 159, 59, 6, 27, 5, 20, 14, 3, 0, 1] rfl
              refine Sx.ser_nil ?_
              refine Sx.block_normal ?_
              refine Sx.then_normal ?_
              exact ⟨(i + 1, ad11, c11), ⟨by show i + 1 ≤ _; omega, fun t q h3 h4 => by rcases Nat.lt_or_ge t i with h5 | h5; exact hlt t q h5 h4; obtain rfl : t = i := (by have : t < i + 1 := h3; omega); rw [ho] at h4; cases h4; exact hlt9⟩, (hT.keep [10, 9, 59, 6, 27, 5, 20, 14, 3, 0, 1] rfl), (H.keep [1, 2, 3, 4, 5] rfl rfl), by show _ - (i + 1) < _ - i; omega⟩
            · try simp only [decide_eq_true_eq, decide_eq_false_iff_not, Bool.not_eq_true', Bool.not_eq_false', Bool.not_eq_true, Bool.not_eq_false, Bool.and_eq_true, Bool.or_eq_false_iff, beq_iff_eq, bne_iff_ne, Int.not_lt, Int.not_le, ne_eq] at hc45
              have hls : ¬ ltS o.s x.s := hc45
              refine Sx.st_take hT rfl rfl rfl rfl (Sx.x_move hT rfl rfl) ?_
              clear hT; intro a hT
              refine Sx.st_take hT rfl rfl rfl rfl (Sx.x_nilCheck hT rfl rfl) ?_
              clear hT; intro a hT
              refine Sx.st_take hT rfl rfl rfl rfl (Sx.x_fieldAddr hT rfl Try.fa55_0 rfl) ?_
              clear hT; intro a hT
              refine Sx.st_held hT rfl rfl rfl rfl hH (fun w' h' => Sx.x_load1 hT rfl Try.fl29 rfl ((Hu.heldB 2 rfl h' Sx.off_No).nth rfl)) ?_
              clear hT; intro a hT
              refine Sx.st_take hT rfl rfl rfl rfl (Sx.x_move hT rfl rfl) ?_
              clear hT; intro a hT
              refine Sx.st_take hT rfl rfl rfl rfl (Sx.x_index (k := i) hT rfl Try.underlying29 Try.ti35 ((H.at 3 rfl).1).sv rfl rfl (by first | rfl | omega) (by omega)) ?_
              clear hT; intro a hT
              refine Sx.st_take hT rfl rfl rfl rfl (Sx.x_fieldAddr hT rfl Try.fa35_3 rfl) ?_
              clear hT; intro a hT
              refine Sx.st_held hT rfl rfl rfl rfl hH (fun w' h' => Sx.y_loadS hT rfl Try.underlying28 Try.ti28 rfl (((((Hu.held 3 rfl h' Sx.off_No).1).cs Fr.len ho).seg (i := 5) (k := 3) rfl)) (by rfl)) ?_
              clear hT; intro a hT
              refine Sx.st_take hT rfl rfl rfl rfl (Sx.x_fieldAddr hT rfl Try.fa35_3 rfl) ?_
              clear hT; intro a hT
              refine Sx.st_held hT rfl rfl rfl rfl hH (fun w' h' => Sx.y_loadS hT rfl Try.underlying28 Try.ti28 rfl ((Hu.heldB 1 rfl h' Sx.off_No).seg (k := 3) rfl) (by rfl)) ?_
              clear hT; intro a hT
              refine Sx.st_take hT rfl rfl rfl rfl (Sx.x_eqS hT rfl (by kernel_rfl) (Try.eq28 _ _ _ _ _ _) rfl rfl rfl) ?_
              clear hT; intro a hT
              refine Sx.st_take hT rfl rfl rfl rfl (Sx.x_move hT rfl rfl) ?_
              clear hT; intro a hT
              -- guard (23, 31)
              refine Sx.Sl.two hT 145 rfl (fun hc47 hT => ?_) (fun hc47 hT => ?_)
              · try simp only [decide_eq_true_eq, decide_eq_false_iff_not, Bool.not_eq_true', Bool.not_eq_false', Bool.not_eq_true, Bool.not_eq_false, Bool.and_eq_true, Bool.or_eq_false_iff, beq_iff_eq, bne_iff_ne, Int.not_lt, Int.not_le, ne_eq] at hc47
                have hse : o.s = x.s := by rw [stp_iff]; simpa using hc47
                refine Sx.st_take hT rfl rfl rfl rfl (Sx.x_move hT rfl rfl) ?_
                clear hT; intro a hT
                refine Sx.st_take hT rfl rfl rfl rfl (Sx.x_nilCheck hT rfl rfl) ?_
                clear hT; intro a hT
                refine Sx.st_take hT rfl rfl rfl rfl (Sx.x_fieldAddr hT rfl Try.fa55_0 rfl) ?_
                clear hT; intro a hT
                refine Sx.st_held hT rfl rfl rfl rfl hH (fun w' h' => Sx.x_load1 hT rfl Try.fl29 rfl ((Hu.heldB 2 rfl h' Sx.off_No).nth rfl)) ?_
                clear hT; intro a hT
                refine Sx.st_take hT rfl rfl rfl rfl (Sx.x_move hT rfl rfl) ?_
                clear hT; intro a hT
                refine Sx.st_take hT rfl rfl rfl rfl (Sx.x_index (k := i) hT rfl Try.underlying29 Try.ti35 ((H.at 3 rfl).1).sv rfl rfl (by first | rfl | omega) (by omega)) ?_
                clear hT; intro a hT
                refine Sx.st_take hT rfl rfl rfl rfl (Sx.x_fieldAddr hT rfl Try.fa35_0 rfl) ?_
                clear hT; intro a hT
                refine Sx.st_held hT rfl rfl rfl rfl hH (fun w' h' => Sx.x_load1 hT rfl Try.fl3 rfl (((Hu.held 3 rfl h' Sx.off_No).1).cell (j := 0) Fr.len ho rfl)) ?_
                clear hT; intro a hT
                refine Sx.st_take hT rfl rfl rfl rfl (Sx.x_fieldAddr hT rfl Try.fa35_0 rfl) ?_
                clear hT; intro a hT
                refine Sx.st_held hT rfl rfl rfl rfl hH (fun w' h' => Sx.x_load1 hT rfl Try.fl3 rfl ((Hu.heldB 1 rfl h' Sx.off_No).nth rfl)) ?_
                clear hT; intro a hT
                refine Sx.st_take hT rfl rfl rfl rfl ((fun w => Sx.x_lt w hT rfl rfl rfl)) ?_
                clear hT; intro a hT
                refine Sx.st_take hT rfl rfl rfl rfl (Sx.x_pick_t hT rfl rfl rfl) ?_
                clear hT; intro a hT
                refine Sx.st_take hT rfl rfl rfl rfl (Sx.x_pick_f hT rfl rfl rfl) ?_
                clear hT; intro a hT
                refine Sx.st_take hT rfl rfl rfl rfl (Sx.x_pick_t hT rfl rfl rfl) ?_
                clear hT; intro a hT
                replace hT := hT.keep [159, 10, 9, 59, 6, 27, 5, 20, 14, 3, 0, 1] rfl
                clear Hu hH
                refine Sx.ser_calm ?_
                refine Sx.then_normal (hK43 _ _ ?_)
                clear hK43
                -- cond 8
                refine Sx.wp_if hT rfl (fun hc48 => ?_) (fun hc48 => ?_)
                · try simp only [decide_eq_true_eq, decide_eq_false_iff_not, Bool.not_eq_true', Bool.not_eq_false', Bool.not_eq_true, Bool.not_eq_false, Bool.and_eq_true, Bool.or_eq_false_iff, beq_iff_eq, bne_iff_ne, Int.not_lt, Int.not_le, ne_eq] at hc48
                  have hlt9 : ltF o.p x.p := .inr ⟨hse, hc48⟩
                  refine wp_skip ?_
                  refine Sx.then_normal (hK42 _ _ ?_)
                  clear hK42
                  refine wp_block ?_
                  refine wp_seq_k fun K49 hK49 => ?_
                  -- region 24 (ref.go:45)
                  refine Sx.wp_text [(0, .take), (1, .take), (2, .take), (3, .take), (4, .run), (5, .take), (6, .take), (7, .run), (8, .run), (9, .run), (10, .take)] rfl ?_
                  refine Sx.st_take hT rfl rfl rfl rfl (Sx.x_move hT rfl rfl) ?_
                  clear hT; intro a hT
                  refine Sx.st_take hT rfl rfl rfl rfl (Sx.x_move hT rfl rfl) ?_
                  clear hT; intro a hT
                  refine Sx.st_take hT rfl rfl rfl rfl (Sx.x_nilCheck hT rfl rfl) ?_
                  clear hT; intro a hT
                  refine Sx.st_take hT rfl rfl rfl rfl (Sx.x_fieldAddr hT rfl Try.fa55_0 rfl) ?_
                  clear hT; intro a hT
                  refine Sx.st_run hT rfl rfl rfl rfl (Sx.x_load1 hT rfl Try.fl29 rfl ((H.blk 2 rfl).nth rfl)) ?_
                  clear hT; intro a hT
                  refine Sx.st_take hT rfl rfl rfl rfl (Sx.x_move hT rfl rfl) ?_
                  clear hT; intro a hT
                  refine Sx.st_take hT rfl rfl rfl rfl (Sx.x_index (k := i) hT rfl Try.underlying29 Try.ti35 ((H.at 3 rfl).1).sv rfl rfl (by first | rfl | omega) (by omega)) ?_
                  clear hT; intro a hT
                  refine Sx.st_run hT rfl rfl rfl rfl (Sx.y_loadS hT rfl Try.underlying35 Try.ti35 rfl (((((H.at 3 rfl).1).cs Fr.len ho).seg (i := 0) (k := 9) rfl)) (by rfl)) ?_
                  clear hT; intro a hT
                  refine Sx.st_eff hT rfl rfl rfl rfl (Sx.y_slice1 hT rfl Try.underlying29 Try.ti35 rfl rfl rfl rfl rfl rfl _) ?_
                  clear hT; rintro _ w12 ⟨b3, rfl, N⟩ a hT
                  replace H := H.new N; clear N
                  refine Sx.st_eff hT rfl rfl rfl rfl (Sx.x_append hT rfl rfl Try.underlying29 Try.ti35 rfl (by decide) rfl rfl (H.row 1 rfl) ((H.blk 0 rfl).sv1 rfl) (Fr.one o) (fun h => by cases h) (by unfold maxLen; omega) (by omega)) ?_
                  rintro _ w13 ⟨ad13, c13, rfl, hr, E, hown, -⟩
                  clear hT; intro a hT
                  replace H := H.setR 1 rfl hr E hown rfl; clear hr E hown
                  rw [tk_g ho] at H
                  refine Sx.st_take hT rfl rfl rfl rfl (Sx.x_assign hT rfl rfl) ?_
                  clear hT; intro a hT
                  replace hT := hT.keep [9, 159, 10, 59, 6, 27, 5, 20, 14, 3, 0, 1] rfl
                  refine Sx.ser_nil ?_
                  refine Sx.then_normal (hK49 _ _ ?_)
                  clear hK49
                  -- region 25 (ref.go:46)
                  refine Sx.wp_text [(0, .take), (1, .take), (2, .take)] rfl ?_
                  refine Sx.st_take hT rfl rfl rfl rfl (Sx.x_move hT rfl rfl) ?_
                  clear hT; intro a hT
                  refine Sx.st_take hT rfl rfl rfl rfl ((fun w => Sx.x_add w hT rfl rfl rfl (Sx.wrap64 (by omega)))) ?_
                  clear hT; intro a hT
                  refine Sx.st_take hT rfl rfl rfl rfl (Sx.x_assign hT rfl rfl) ?_
                  clear hT; intro a hT
                  replace hT := hT.keep [10, 9, 159, 59, 6, 27, 5, 20, 14, 3, 0, 1] rfl
                  refine Sx.ser_nil ?_
                  refine Sx.block_normal ?_
                  refine Sx.then_normal ?_
                  exact ⟨(i + 1, ad13, c13), ⟨by show i + 1 ≤ _; omega, fun t q h3 h4 => by rcases Nat.lt_or_ge t i with h5 | h5; exact hlt t q h5 h4; obtain rfl : t = i := (by have : t < i + 1 := h3; omega); rw [ho] at h4; cases h4; exact hlt9⟩, (hT.keep [10, 9, 59, 6, 27, 5, 20, 14, 3, 0, 1] rfl), (H.keep [1, 2, 3, 4, 5] rfl rfl), by show _ - (i + 1) < _ - i; omega⟩
                · try simp only [decide_eq_true_eq, decide_eq_false_iff_not, Bool.not_eq_true', Bool.not_eq_false', Bool.not_eq_true, Bool.not_eq_false, Bool.and_eq_true, Bool.or_eq_false_iff, beq_iff_eq, bne_iff_ne, Int.not_lt, Int.not_le, ne_eq] at hc48
                  have hnl9 : ¬ ltF o.p x.p := fun h9 => by
                    rcases h9 with h9 | ⟨h9, h8⟩
                    · exact hls h9
                    · exact absurd h8 (by show ¬ o.rg < x.rg; omega)
                  have hld : leadF x.p (L.map Fr.p) = i := lead_map hi (fun t q h1 h2 => (lessF_iff _ _).2 (hlt t q h1 h2)) (fun q hq h9 => absurd ((lessF_iff _ _).1 h9) (by rw [ho] at hq; cases hq; exact hnl9))
                  refine wp_exit ?_
                  refine Sx.then_exit ?_
                  refine Sx.then_exit ?_
                  refine Sx.block_exit ?_
                  refine Sx.then_normal (hK41 _ _ ?_)
                  clear hK41
                  refine wp_seq_k fun K50 hK50 => ?_
                  -- region 26 (ref.go:48)
                  refine Sx.wp_text [(0, .run), (1, .run), (2, .run)] rfl ?_
                  refine Sx.st_run hT rfl rfl rfl rfl (Sx.y_loadS hT rfl Try.underlying35 Try.ti35 rfl ((H.blk 1 rfl).seg (k := 9) rfl) (by rfl)) ?_
                  clear hT; intro a hT
                  refine Sx.st_eff hT rfl rfl rfl rfl (Sx.y_alloc hT rfl Try.ti35 rfl _) ?_
                  clear hT; rintro _ w14 ⟨b4, rfl, N⟩ a hT
                  replace H := H.new N; clear N
                  refine Sx.st_act hT rfl rfl rfl (Sx.y_storeS hT rfl Try.ti35 rfl rfl rfl rfl rfl (H.blk 0 rfl) rfl) ?_
                  rintro w15 ⟨hb, E, _⟩
                  replace H := H.setB 0 rfl hb E rfl; clear hb E
                  replace hT := hT.keep [11, 159, 10, 9, 59, 6, 27, 5, 20, 14, 3, 0, 1] rfl
                  refine Sx.ser_nil ?_
                  refine Sx.then_normal (hK50 _ _ ?_)
                  clear hK50
                  refine wp_seq_k fun K51 hK51 => ?_
                  -- region 27 (ref.go:49)
                  refine Sx.wp_text [(0, .take), (1, .run), (2, .run), (3, .take), (4, .run)] rfl ?_
                  refine Sx.st_take hT rfl rfl rfl rfl (Sx.x_fieldAddr hT rfl Try.fa35_4 rfl) ?_
                  clear hT; intro a hT
                  refine Sx.st_run hT rfl rfl rfl rfl (Sx.x_load1 hT rfl Try.fl33 rfl ((H.blk 2 rfl).nth rfl)) ?_
                  clear hT; intro a hT
                  refine Sx.st_call hT rfl rfl rfl rfl rfl Try.can17 rfl (CopyWrites_calls x.ws (R.at H.ext) hl) ?_
                  rintro _ w16 ⟨ad8, c8, rfl, K⟩
                  refine ⟨_, rfl, ?_⟩
                  clear hT; intro a hT
                  replace H := H.more K rfl; clear K
                  have hnp : Fr.p (⟨x.rg, x.at_, x.t, x.s, ad8, c8, x.ws⟩ : Fr) = x.p := rfl
                  have hln : i + 1 + (L.length - i) = (L.take i ++ (⟨x.rg, x.at_, x.t, x.s, ad8, c8, x.ws⟩ : Fr) :: L.drop i).length := by rw [List.length_append, List.length_cons, List.length_take, List.length_drop]; omega
                  have hmp : (L.take i ++ (⟨x.rg, x.at_, x.t, x.s, ad8, c8, x.ws⟩ : Fr) :: L.drop i).map Fr.p = insF (L.map Fr.p) x.p := by unfold insF; rw [hld, List.map_append, List.map_cons, hnp, List.map_take, List.map_drop]
                  refine Sx.st_take hT rfl rfl rfl rfl (Sx.x_fieldAddr hT rfl Try.fa35_4 rfl) ?_
                  clear hT; intro a hT
                  refine Sx.st_act hT rfl rfl rfl (Sx.y_store1 hT rfl Try.ti33 rfl rfl rfl (H.blk 1 rfl) rfl) ?_
                  rintro w17 ⟨hb, E, _⟩
                  replace H := H.setB 1 rfl hb E rfl; clear hb E
                  replace hT := hT.keep [11, 159, 10, 9, 59, 6, 27, 5, 20, 14, 3, 0, 1] rfl
                  refine Sx.ser_nil ?_
                  refine Sx.then_normal (hK51 _ _ ?_)
                  clear hK51
                  refine wp_seq_k fun K52 hK52 => ?_
                  -- region 28 (ref.go:50)
                  refine Sx.wp_text [(0, .take), (1, .run), (2, .run), (3, .run), (4, .take)] rfl ?_
                  refine Sx.st_take hT rfl rfl rfl rfl (Sx.x_move hT rfl rfl) ?_
                  clear hT; intro a hT
                  refine Sx.st_run hT rfl rfl rfl rfl (Sx.y_loadS hT rfl Try.underlying35 Try.ti35 rfl ((H.blk 1 rfl).seg (k := 9) rfl) (by rfl)) ?_
                  clear hT; intro a hT
                  refine Sx.st_eff hT rfl rfl rfl rfl (Sx.y_slice1 hT rfl Try.underlying29 Try.ti35 rfl rfl rfl rfl rfl rfl _) ?_
                  clear hT; rintro _ w18 ⟨b5, rfl, N⟩ a hT
                  replace H := H.new N; clear N
                  refine Sx.st_eff hT rfl rfl rfl rfl (Sx.x_append hT rfl rfl Try.underlying29 Try.ti35 rfl (by decide) rfl rfl (H.row 3 rfl) ((H.blk 0 rfl).sv1 rfl) (Fr.one (⟨x.rg, x.at_, x.t, x.s, ad8, c8, x.ws⟩ : Fr)) (fun h => by cases h) (by unfold maxLen; omega) (by omega)) ?_
                  rintro _ w19 ⟨ad19, c19, rfl, hr, E, hown, -⟩
                  clear hT; intro a hT
                  replace H := H.setR 3 rfl hr E hown rfl; clear hr E hown
                  rw [snoc_g (f := (⟨x.rg, x.at_, x.t, x.s, ad8, c8, x.ws⟩ : Fr))] at H
                  refine Sx.st_take hT rfl rfl rfl rfl (Sx.x_assign hT rfl rfl) ?_
                  clear hT; intro a hT
                  replace hT := hT.keep [9, 11, 159, 10, 59, 6, 27, 5, 20, 14, 3, 0, 1] rfl
                  refine Sx.ser_nil ?_
                  refine Sx.then_normal (hK52 _ _ ?_)
                  clear hK52
                  refine wp_seq_k fun K53 hK53 => ?_
                  -- region 29 (ref.go:51)
                  refine Sx.wp_text [(0, .take), (1, .take), (2, .take), (3, .take), (4, .take), (5, .run), (6, .take), (7, .take), (8, .run), (9, .take), (10, .take), (11, .run)] rfl ?_
                  refine Sx.st_take hT rfl rfl rfl rfl (Sx.x_move hT rfl rfl) ?_
                  clear hT; intro a hT
                  refine Sx.st_take hT rfl rfl rfl rfl (Sx.x_move hT rfl rfl) ?_
                  clear hT; intro a hT
                  refine Sx.st_take hT rfl rfl rfl rfl (Sx.x_move hT rfl rfl) ?_
                  clear hT; intro a hT
                  refine Sx.st_take hT rfl rfl rfl rfl (Sx.x_nilCheck hT rfl rfl) ?_
                  clear hT; intro a hT
                  refine Sx.st_take hT rfl rfl rfl rfl (Sx.x_fieldAddr hT rfl Try.fa55_0 rfl) ?_
                  clear hT; intro a hT
                  refine Sx.st_run hT rfl rfl rfl rfl (Sx.x_load1 hT rfl Try.fl29 rfl ((H.blk 5 rfl).nth rfl)) ?_
                  clear hT; intro a hT
                  refine Sx.st_take hT rfl rfl rfl rfl (Sx.x_move hT rfl rfl) ?_
                  clear hT; intro a hT
                  refine Sx.st_take hT rfl rfl rfl rfl (Sx.x_slice_l (p := i) hT rfl Try.underlying29 Try.ti35 rfl rfl rfl (by omega)) ?_
                  clear hT; intro a hT
                  refine Sx.st_eff hT rfl rfl rfl rfl (Sx.x_append hT rfl rfl Try.underlying29 Try.ti35 rfl (by decide) rfl rfl (H.row 3 rfl) ((((H.at 6 rfl).1).sv).cut (lo := i) (hi := L.length) (by omega) (Nat.le_refl _) (H.at 6 rfl).2.1) (fun u hu => by rw [cut_g (by omega)] at hu; exact flat_one Fr.one _ u hu) (fun h => nilcut2 (H.at 6 rfl).2.2 h) (by unfold maxLen; omega) (by omega)) ?_
                  rintro _ w20 ⟨ad20, c20, rfl, hr, E, hown, -⟩
                  clear hT; intro a hT
                  replace H := H.setR 3 rfl hr E hown rfl; clear hr E hown
                  rw [cut_g (by omega), ← List.flatMap_append, List.append_assoc, List.singleton_append, hln] at H
                  rw [hln] at hT
                  refine Sx.st_take hT rfl rfl rfl rfl (Sx.x_nilCheck hT rfl rfl) ?_
                  clear hT; intro a hT
                  refine Sx.st_take hT rfl rfl rfl rfl (Sx.x_fieldAddr hT rfl Try.fa55_0 rfl) ?_
                  clear hT; intro a hT
                  refine Sx.st_act hT rfl rfl rfl (Sx.y_store1 hT rfl Try.ti29 rfl rfl rfl (H.blk 5 rfl) rfl) ?_
                  rintro w21 ⟨hb, E, _⟩
                  replace H := H.setB 5 rfl hb E rfl; clear hb E
                  replace H := H.famPut (x := (⟨x.rg, x.at_, x.t, x.s, ad8, c8, x.ws⟩ : Fr)) 7 1 rfl rfl rfl rfl [0, 2, 3, 4, 5, 6] rfl rfl (show (L.take i ++ (⟨x.rg, x.at_, x.t, x.s, ad8, c8, x.ws⟩ : Fr) :: L.drop i).Perm ((⟨x.rg, x.at_, x.t, x.s, ad8, c8, x.ws⟩ : Fr) :: L) from List.perm_middle.trans (by rw [List.take_append_drop]))
                  replace H := H.turn (q := fun w => Ss w _ Fr.cells 9 (L.take i ++ (⟨x.rg, x.at_, x.t, x.s, ad8, c8, x.ws⟩ : Fr) :: L.drop i) ∧ (L.take i ++ (⟨x.rg, x.at_, x.t, x.s, ad8, c8, x.ws⟩ : Fr) :: L.drop i).length ≤ _ ∧ (_ = none → (L.take i ++ (⟨x.rg, x.at_, x.t, x.s, ad8, c8, x.ws⟩ : Fr) :: L.drop i).length = 0 ∧ _ = 0)) 3 rfl (fun u hu => row_q rfl hu) rfl
                  replace hT := hT.keep [9, 11, 159, 10, 59, 6, 27, 5, 20, 14, 3, 0, 1] rfl
                  refine Sx.ser_nil ?_
                  refine Sx.then_normal (hK53 _ _ ?_)
                  clear hK53
                  refine wp_seq_k fun K54 hK54 => ?_
                  -- region 30 (ref.go:52)
                  refine Sx.wp_text [(0, .take)] rfl ?_
                  refine Sx.st_take hT rfl rfl rfl rfl (Sx.x_assign hT rfl rfl) ?_
                  clear hT; intro a hT
                  replace hT := hT.keep [4, 9, 11, 159, 10, 59, 6, 27, 5, 20, 14, 3, 0, 1] rfl
                  refine Sx.ser_nil ?_
                  refine Sx.then_normal (hK54 _ _ ?_)
                  clear hK54
                  refine wp_ret ?_
                  refine Sx.done1 (fn := Try.f20) hT rfl (.tmp (hT.get 4 _ rfl)) ?_
                  refine ⟨_, _, _, (L.take i ++ (⟨x.rg, x.at_, x.t, x.s, ad8, c8, x.ws⟩ : Fr) :: L.drop i), ?_, H.keep [5, 3, 0] rfl rfl, ?_⟩
                  · rw [hadd]
                  · rw [hmp]; unfold addL; rw [if_pos hadd]
              · try simp only [decide_eq_true_eq, decide_eq_false_iff_not, Bool.not_eq_true', Bool.not_eq_false', Bool.not_eq_true, Bool.not_eq_false, Bool.and_eq_true, Bool.or_eq_false_iff, beq_iff_eq, bne_iff_ne, Int.not_lt, Int.not_le, ne_eq] at hc47
                have hse : o.s ≠ x.s := by rw [Ne, stp_iff]; simpa using hc47
                refine Sx.st_skip hT rfl rfl rfl rfl ?_
                clear hT; intro a hT
                refine Sx.st_skip hT rfl rfl rfl rfl ?_
                clear hT; intro a hT
                refine Sx.st_skip hT rfl rfl rfl rfl ?_
                clear hT; intro a hT
                refine Sx.st_heldskip hT rfl rfl rfl rfl hH ?_
                clear hT; intro a hT
                refine Sx.st_skip hT rfl rfl rfl rfl ?_
                clear hT; intro a hT
                refine Sx.st_skip hT rfl rfl rfl rfl ?_
                clear hT; intro a hT
                refine Sx.st_skip hT rfl rfl rfl rfl ?_
                clear hT; intro a hT
                refine Sx.st_heldskip hT rfl rfl rfl rfl hH ?_
                clear hT; intro a hT
                refine Sx.st_skip hT rfl rfl rfl rfl ?_
                clear hT; intro a hT
                refine Sx.st_heldskip hT rfl rfl rfl rfl hH ?_
                clear hT; intro a hT
                refine Sx.st_skip hT rfl rfl rfl rfl ?_
                clear hT; intro a hT
                refine Sx.st_take hT rfl rfl rfl rfl (Sx.x_pick_f hT rfl rfl rfl) ?_
                clear hT; intro a hT
                refine Sx.st_take hT rfl rfl rfl rfl (Sx.x_pick_f hT rfl rfl rfl) ?_
                clear hT; intro a hT
                refine Sx.st_take hT rfl rfl rfl rfl (Sx.x_pick_t hT rfl rfl rfl) ?_
                clear hT; intro a hT
                replace hT := hT.keep [159, 10, 9, 59, 6, 27, 5, 20, 14, 3, 0, 1] rfl
                clear Hu hH
                refine Sx.ser_calm ?_
                refine Sx.then_normal (hK43 _ _ ?_)
                clear hK43
                refine Sx.wp_if hT rfl (fun h => by cases h) (fun _ => ?_)
                have hnl9 : ¬ ltF o.p x.p := fun h9 => by
                  rcases h9 with h9 | ⟨h9, h8⟩
                  · exact hls h9
                  · exact hse h9
                have hld : leadF x.p (L.map Fr.p) = i := lead_map hi (fun t q h1 h2 => (lessF_iff _ _).2 (hlt t q h1 h2)) (fun q hq h9 => absurd ((lessF_iff _ _).1 h9) (by rw [ho] at hq; cases hq; exact hnl9))
                refine wp_exit ?_
                refine Sx.then_exit ?_
                refine Sx.then_exit ?_
                refine Sx.block_exit ?_
                refine Sx.then_normal (hK41 _ _ ?_)
                clear hK41
                refine wp_seq_k fun K55 hK55 => ?_
                -- region 26 (ref.go:48)
                refine Sx.wp_text [(0, .run), (1, .run), (2, .run)] rfl ?_
                refine Sx.st_run hT rfl rfl rfl rfl (Sx.y_loadS hT rfl Try.underlying35 Try.ti35 rfl ((H.blk 1 rfl).seg (k := 9) rfl) (by rfl)) ?_
                clear hT; intro a hT
                refine Sx.st_eff hT rfl rfl rfl rfl (Sx.y_alloc hT rfl Try.ti35 rfl _) ?_
                clear hT; rintro _ w22 ⟨b6, rfl, N⟩ a hT
                replace H := H.new N; clear N
                refine Sx.st_act hT rfl rfl rfl (Sx.y_storeS hT rfl Try.ti35 rfl rfl rfl rfl rfl (H.blk 0 rfl) rfl) ?_
                rintro w23 ⟨hb, E, _⟩
                replace H := H.setB 0 rfl hb E rfl; clear hb E
                replace hT := hT.keep [11, 159, 10, 9, 59, 6, 27, 5, 20, 14, 3, 0, 1] rfl
                refine Sx.ser_nil ?_
                refine Sx.then_normal (hK55 _ _ ?_)
                clear hK55
                refine wp_seq_k fun K56 hK56 => ?_
                -- region 27 (ref.go:49)
                refine Sx.wp_text [(0, .take), (1, .run), (2, .run), (3, .take), (4, .run)] rfl ?_
                refine Sx.st_take hT rfl rfl rfl rfl (Sx.x_fieldAddr hT rfl Try.fa35_4 rfl) ?_
                clear hT; intro a hT
                refine Sx.st_run hT rfl rfl rfl rfl (Sx.x_load1 hT rfl Try.fl33 rfl ((H.blk 2 rfl).nth rfl)) ?_
                clear hT; intro a hT
                refine Sx.st_call hT rfl rfl rfl rfl rfl Try.can17 rfl (CopyWrites_calls x.ws (R.at H.ext) hl) ?_
                rintro _ w24 ⟨ad8, c8, rfl, K⟩
                refine ⟨_, rfl, ?_⟩
                clear hT; intro a hT
                replace H := H.more K rfl; clear K
                have hnp : Fr.p (⟨x.rg, x.at_, x.t, x.s, ad8, c8, x.ws⟩ : Fr) = x.p := rfl
                have hln : i + 1 + (L.length - i) = (L.take i ++ (⟨x.rg, x.at_, x.t, x.s, ad8, c8, x.ws⟩ : Fr) :: L.drop i).length := by rw [List.length_append, List.length_cons, List.length_take, List.length_drop]; omega
                have hmp : (L.take i ++ (⟨x.rg, x.at_, x.t, x.s, ad8, c8, x.ws⟩ : Fr) :: L.drop i).map Fr.p = insF (L.map Fr.p) x.p := by unfold insF; rw [hld, List.map_append, List.map_cons, hnp, List.map_take, List.map_drop]
                refine Sx.st_take hT rfl rfl rfl rfl (Sx.x_fieldAddr hT rfl Try.fa35_4 rfl) ?_
                clear hT; intro a hT
                refine Sx.st_act hT rfl rfl rfl (Sx.y_store1 hT rfl Try.ti33 rfl rfl rfl (H.blk 1 rfl) rfl) ?_
                rintro w25 ⟨hb, E, _⟩
                replace H := H.setB 1 rfl hb E rfl; clear hb E
                replace hT := hT.keep [11, 159, 10, 9, 59, 6, 27, 5, 20, 14, 3, 0, 1] rfl
                refine Sx.ser_nil ?_
                refine Sx.then_normal (hK56 _ _ ?_)
                clear hK56
                refine wp_seq_k fun K57 hK57 => ?_
                -- region 28 (ref.go:50)
                refine Sx.wp_text [(0, .take), (1, .run), (2, .run), (3, .run), (4, .take)] rfl ?_
                refine Sx.st_take hT rfl rfl rfl rfl (Sx.x_move hT rfl rfl) ?_
                clear hT; intro a hT
                refine Sx.st_run hT rfl rfl rfl rfl (Sx.y_loadS hT rfl Try.underlying35 Try.ti35 rfl ((H.blk 1 rfl).seg (k := 9) rfl) (by rfl)) ?_
                clear hT; intro a hT
                refine Sx.st_eff hT rfl rfl rfl rfl (Sx.y_slice1 hT rfl Try.underlying29 Try.ti35 rfl rfl rfl rfl rfl rfl _) ?_
                clear hT; rintro _ w26 ⟨b7, rfl, N⟩ a hT
                replace H := H.new N; clear N
                refine Sx.st_eff hT rfl rfl rfl rfl (Sx.x_append hT rfl rfl Try.underlying29 Try.ti35 rfl (by decide) rfl rfl (H.row 3 rfl) ((H.blk 0 rfl).sv1 rfl) (Fr.one (⟨x.rg, x.at_, x.t, x.s, ad8, c8, x.ws⟩ : Fr)) (fun h => by cases h) (by unfold maxLen; omega) (by omega)) ?_
                rintro _ w27 ⟨ad27, c27, rfl, hr, E, hown, -⟩
                clear hT; intro a hT
                replace H := H.setR 3 rfl hr E hown rfl; clear hr E hown
                rw [snoc_g (f := (⟨x.rg, x.at_, x.t, x.s, ad8, c8, x.ws⟩ : Fr))] at H
                refine Sx.st_take hT rfl rfl rfl rfl (Sx.x_assign hT rfl rfl) ?_
                clear hT; intro a hT
                replace hT := hT.keep [9, 11, 159, 10, 59, 6, 27, 5, 20, 14, 3, 0, 1] rfl
                refine Sx.ser_nil ?_
                refine Sx.then_normal (hK57 _ _ ?_)
                clear hK57
                refine wp_seq_k fun K58 hK58 => ?_
                -- region 29 (ref.go:51)
                refine Sx.wp_text [(0, .take), (1, .take), (2, .take), (3, .take), (4, .take), (5, .run), (6, .take), (7, .take), (8, .run), (9, .take), (10, .take), (11, .run)] rfl ?_
                refine Sx.st_take hT rfl rfl rfl rfl (Sx.x_move hT rfl rfl) ?_
                clear hT; intro a hT
                refine Sx.st_take hT rfl rfl rfl rfl (Sx.x_move hT rfl rfl) ?_
                clear hT; intro a hT
                refine Sx.st_take hT rfl rfl rfl rfl (Sx.x_move hT rfl rfl) ?_
                clear hT; intro a hT
                refine Sx.st_take hT rfl rfl rfl rfl (Sx.x_nilCheck hT rfl rfl) ?_
                clear hT; intro a hT
                refine Sx.st_take hT rfl rfl rfl rfl (Sx.x_fieldAddr hT rfl Try.fa55_0 rfl) ?_
                clear hT; intro a hT
                refine Sx.st_run hT rfl rfl rfl rfl (Sx.x_load1 hT rfl Try.fl29 rfl ((H.blk 5 rfl).nth rfl)) ?_
                clear hT; intro a hT
                refine Sx.st_take hT rfl rfl rfl rfl (Sx.x_move hT rfl rfl) ?_
                clear hT; intro a hT
                refine Sx.st_take hT rfl rfl rfl rfl (Sx.x_slice_l (p := i) hT rfl Try.underlying29 Try.ti35 rfl rfl rfl (by omega)) ?_
                clear hT; intro a hT
                refine Sx.st_eff hT rfl rfl rfl rfl (Sx.x_append hT rfl rfl Try.underlying29 Try.ti35 rfl (by decide) rfl rfl (H.row 3 rfl) ((((H.at 6 rfl).1).sv).cut (lo := i) (hi := L.length) (by omega) (Nat.le_refl _) (H.at 6 rfl).2.1) (fun u hu => by rw [cut_g (by omega)] at hu; exact flat_one Fr.one _ u hu) (fun h => nilcut2 (H.at 6 rfl).2.2 h) (by unfold maxLen; omega) (by omega)) ?_
                rintro _ w28 ⟨ad28, c28, rfl, hr, E, hown, -⟩
                clear hT; intro a hT
                replace H := H.setR 3 rfl hr E hown rfl; clear hr E hown
                rw [cut_g (by omega), ← List.flatMap_append, List.append_assoc, List.singleton_append, hln] at H
                rw [hln] at hT
                refine Sx.st_take hT rfl rfl rfl rfl (Sx.x_nilCheck hT rfl rfl) ?_
                clear hT; intro a hT
                refine Sx.st_take hT rfl rfl rfl rfl (Sx.x_fieldAddr hT rfl Try.fa55_0 rfl) ?_
                clear hT; intro a hT
                refine Sx.st_act hT rfl rfl rfl (Sx.y_store1 hT rfl Try.ti29 rfl rfl rfl (H.blk 5 rfl) rfl) ?_
                rintro w29 ⟨hb, E, _⟩
                replace H := H.setB 5 rfl hb E rfl; clear hb E
                replace H := H.famPut (x := (⟨x.rg, x.at_, x.t, x.s, ad8, c8, x.ws⟩ : Fr)) 7 1 rfl rfl rfl rfl [0, 2, 3, 4, 5, 6] rfl rfl (show (L.take i ++ (⟨x.rg, x.at_, x.t, x.s, ad8, c8, x.ws⟩ : Fr) :: L.drop i).Perm ((⟨x.rg, x.at_, x.t, x.s, ad8, c8, x.ws⟩ : Fr) :: L) from List.perm_middle.trans (by rw [List.take_append_drop]))
                replace H := H.turn (q := fun w => Ss w _ Fr.cells 9 (L.take i ++ (⟨x.rg, x.at_, x.t, x.s, ad8, c8, x.ws⟩ : Fr) :: L.drop i) ∧ (L.take i ++ (⟨x.rg, x.at_, x.t, x.s, ad8, c8, x.ws⟩ : Fr) :: L.drop i).length ≤ _ ∧ (_ = none → (L.take i ++ (⟨x.rg, x.at_, x.t, x.s, ad8, c8, x.ws⟩ : Fr) :: L.drop i).length = 0 ∧ _ = 0)) 3 rfl (fun u hu => row_q rfl hu) rfl
                replace hT := hT.keep [9, 11, 159, 10, 59, 6, 27, 5, 20, 14, 3, 0, 1] rfl
                refine Sx.ser_nil ?_
                refine Sx.then_normal (hK58 _ _ ?_)
                clear hK58
                refine wp_seq_k fun K59 hK59 => ?_
                -- region 30 (ref.go:52)
                refine Sx.wp_text [(0, .take)] rfl ?_
                refine Sx.st_take hT rfl rfl rfl rfl (Sx.x_assign hT rfl rfl) ?_
                clear hT; intro a hT
                replace hT := hT.keep [4, 9, 11, 159, 10, 59, 6, 27, 5, 20, 14, 3, 0, 1] rfl
                refine Sx.ser_nil ?_
                refine Sx.then_normal (hK59 _ _ ?_)
                clear hK59
                refine wp_ret ?_
                refine Sx.done1 (fn := Try.f20) hT rfl (.tmp (hT.get 4 _ rfl)) ?_
                refine ⟨_, _, _, (L.take i ++ (⟨x.rg, x.at_, x.t, x.s, ad8, c8, x.ws⟩ : Fr) :: L.drop i), ?_, H.keep [5, 3, 0] rfl rfl, ?_⟩
                · rw [hadd]
                · rw [hmp]; unfold addL; rw [if_pos hadd]
          · try simp only [decide_eq_true_eq, decide_eq_false_iff_not, Bool.not_eq_true', Bool.not_eq_false', Bool.not_eq_true, Bool.not_eq_false, Bool.and_eq_true, Bool.or_eq_false_iff, beq_iff_eq, bne_iff_ne, Int.not_lt, Int.not_le, ne_eq] at hc44
            refine Sx.st_skip hT rfl rfl rfl rfl ?_
            clear hT; intro a hT
            refine Sx.st_skip hT rfl rfl rfl rfl ?_
            clear hT; intro a hT
            refine Sx.st_skip hT rfl rfl rfl rfl ?_
            clear hT; intro a hT
            refine Sx.st_heldskip hT rfl rfl rfl rfl hH ?_
            clear hT; intro a hT
            refine Sx.st_skip hT rfl rfl rfl rfl ?_
            clear hT; intro a hT
            refine Sx.st_skip hT rfl rfl rfl rfl ?_
            clear hT; intro a hT
            refine Sx.st_skip hT rfl rfl rfl rfl ?_
            clear hT; intro a hT
            refine Sx.st_heldskip hT rfl rfl rfl rfl hH ?_
            clear hT; intro a hT
            refine Sx.st_skip hT rfl rfl rfl rfl ?_
            clear hT; intro a hT
            refine Sx.st_heldskip hT rfl rfl rfl rfl hH ?_
            clear hT; intro a hT
            refine Sx.st_keepskip hT rfl rfl rfl rfl hH ?_
            clear hT; intro a hT
            refine Sx.st_skip hT rfl rfl rfl rfl ?_
            clear hT; intro a hT
            refine Sx.st_skip hT rfl rfl rfl rfl ?_
            clear hT; intro a hT
            refine Sx.st_skip hT rfl rfl rfl rfl ?_
            clear hT; intro a hT
            refine Sx.st_skip hT rfl rfl rfl rfl ?_
            clear hT; intro a hT
            refine Sx.st_heldskip hT rfl rfl rfl rfl hH ?_
            clear hT; intro a hT
            refine Sx.st_skip hT rfl rfl rfl rfl ?_
            clear hT; intro a hT
            refine Sx.st_skip hT rfl rfl rfl rfl ?_
            clear hT; intro a hT
            refine Sx.st_skip hT rfl rfl rfl rfl ?_
            clear hT; intro a hT
            refine Sx.st_heldskip hT rfl rfl rfl rfl hH ?_
            clear hT; intro a hT
            refine Sx.st_skip hT rfl rfl rfl rfl ?_
            clear hT; intro a hT
            refine Sx.st_heldskip hT rfl rfl rfl rfl hH ?_
            clear hT; intro a hT
            refine Sx.st_skip hT rfl rfl rfl rfl ?_
            clear hT; intro a hT
            refine Sx.st_skip hT rfl rfl rfl rfl ?_
            clear hT; intro a hT
            refine Sx.st_skip hT rfl rfl rfl rfl ?_
            clear hT; intro a hT
            refine Sx.st_skip hT rfl rfl rfl rfl ?_
            clear hT; intro a hT
            refine Sx.st_skip hT rfl rfl rfl rfl ?_
            clear hT; intro a hT
            refine Sx.st_heldskip hT rfl rfl rfl rfl hH ?_
            clear hT; intro a hT
            refine Sx.st_skip hT rfl rfl rfl rfl ?_
            clear hT; intro a hT
            refine Sx.st_skip hT rfl rfl rfl rfl ?_
            clear hT; intro a hT
            refine Sx.st_skip hT rfl rfl rfl rfl ?_
            clear hT; intro a hT
            refine Sx.st_heldskip hT rfl rfl rfl rfl hH ?_
            clear hT; intro a hT
            refine Sx.st_skip hT rfl rfl rfl rfl ?_
            clear hT; intro a hT
            refine Sx.st_heldskip hT rfl rfl rfl rfl hH ?_
            clear hT; intro a hT
            refine Sx.st_skip hT rfl rfl rfl rfl ?_
            clear hT; intro a hT
            refine Sx.st_skip hT rfl rfl rfl rfl ?_
            clear hT; intro a hT
            refine Sx.st_skip hT rfl rfl rfl rfl ?_
            clear hT; intro a hT
            refine Sx.st_take hT rfl rfl rfl rfl (Sx.x_pick_f hT rfl rfl rfl) ?_
            clear hT; intro a hT
            replace hT := hT.keep [159, 10, 9, 59, 6, 27, 5, 20, 14, 3, 0, 1] rfl
            clear Hu hH
            refine Sx.ser_calm ?_
            refine Sx.then_normal (hK43 _ _ ?_)
            clear hK43
            refine Sx.wp_if hT rfl (fun h => by cases h) (fun _ => ?_)
            have hld : leadF x.p (L.map Fr.p) = i := lead_map hi (fun t q h1 h2 => (lessF_iff _ _).2 (hlt t q h1 h2)) (fun q hq h9 => absurd ((lessF_iff _ _).1 h9) (by rw [List.getElem?_eq_none (by omega)] at hq; cases hq))
            refine wp_exit ?_
            refine Sx.then_exit ?_
            refine Sx.then_exit ?_
            refine Sx.block_exit ?_
            refine Sx.then_normal (hK41 _ _ ?_)
            clear hK41
            refine wp_seq_k fun K60 hK60 => ?_
            -- region 26 (ref.go:48)
            refine Sx.wp_text [(0, .run), (1, .run), (2, .run)] rfl ?_
            refine Sx.st_run hT rfl rfl rfl rfl (Sx.y_loadS hT rfl Try.underlying35 Try.ti35 rfl ((H.blk 1 rfl).seg (k := 9) rfl) (by rfl)) ?_
            clear hT; intro a hT
            refine Sx.st_eff hT rfl rfl rfl rfl (Sx.y_alloc hT rfl Try.ti35 rfl _) ?_
            clear hT; rintro _ w30 ⟨b8, rfl, N⟩ a hT
            replace H := H.new N; clear N
            refine Sx.st_act hT rfl rfl rfl (Sx.y_storeS hT rfl Try.ti35 rfl rfl rfl rfl rfl (H.blk 0 rfl) rfl) ?_
            rintro w31 ⟨hb, E, _⟩
            replace H := H.setB 0 rfl hb E rfl; clear hb E
            replace hT := hT.keep [11, 159, 10, 9, 59, 6, 27, 5, 20, 14, 3, 0, 1] rfl
            refine Sx.ser_nil ?_
            refine Sx.then_normal (hK60 _ _ ?_)
            clear hK60
            refine wp_seq_k fun K61 hK61 => ?_
            -- region 27 (ref.go:49)
            refine Sx.wp_text [(0, .take), (1, .run), (2, .run), (3, .take), (4, .run)] rfl ?_
            refine Sx.st_take hT rfl rfl rfl rfl (Sx.x_fieldAddr hT rfl Try.fa35_4 rfl) ?_
            clear hT; intro a hT
            refine Sx.st_run hT rfl rfl rfl rfl (Sx.x_load1 hT rfl Try.fl33 rfl ((H.blk 2 rfl).nth rfl)) ?_
            clear hT; intro a hT
            refine Sx.st_call hT rfl rfl rfl rfl rfl Try.can17 rfl (CopyWrites_calls x.ws (R.at H.ext) hl) ?_
            rintro _ w32 ⟨ad8, c8, rfl, K⟩
            refine ⟨_, rfl, ?_⟩
            clear hT; intro a hT
            replace H := H.more K rfl; clear K
            have hnp : Fr.p (⟨x.rg, x.at_, x.t, x.s, ad8, c8, x.ws⟩ : Fr) = x.p := rfl
            have hln : i + 1 + (L.length - i) = (L.take i ++ (⟨x.rg, x.at_, x.t, x.s, ad8, c8, x.ws⟩ : Fr) :: L.drop i).length := by rw [List.length_append, List.length_cons, List.length_take, List.length_drop]; omega
            have hmp : (L.take i ++ (⟨x.rg, x.at_, x.t, x.s, ad8, c8, x.ws⟩ : Fr) :: L.drop i).map Fr.p = insF (L.map Fr.p) x.p := by unfold insF; rw [hld, List.map_append, List.map_cons, hnp, List.map_take, List.map_drop]
            refine Sx.st_take hT rfl rfl rfl rfl (Sx.x_fieldAddr hT rfl Try.fa35_4 rfl) ?_
            clear hT; intro a hT
            refine Sx.st_act hT rfl rfl rfl (Sx.y_store1 hT rfl Try.ti33 rfl rfl rfl (H.blk 1 rfl) rfl) ?_
            rintro w33 ⟨hb, E, _⟩
            replace H := H.setB 1 rfl hb E rfl; clear hb E
            replace hT := hT.keep [11, 159, 10, 9, 59, 6, 27, 5, 20, 14, 3, 0, 1] rfl
            refine Sx.ser_nil ?_
            refine Sx.then_normal (hK61 _ _ ?_)
            clear hK61
            refine wp_seq_k fun K62 hK62 => ?_
            -- region 28 (ref.go:50)
            refine Sx.wp_text [(0, .take), (1, .run), (2, .run), (3, .run), (4, .take)] rfl ?_
            refine Sx.st_take hT rfl rfl rfl rfl (Sx.x_move hT rfl rfl) ?_
            clear hT; intro a hT
            refine Sx.st_run hT rfl rfl rfl rfl (Sx.y_loadS hT rfl Try.underlying35 Try.ti35 rfl ((H.blk 1 rfl).seg (k := 9) rfl) (by rfl)) ?_
            clear hT; intro a hT
            refine Sx.st_eff hT rfl rfl rfl rfl (Sx.y_slice1 hT rfl Try.underlying29 Try.ti35 rfl rfl rfl rfl rfl rfl _) ?_
            clear hT; rintro _ w34 ⟨b9, rfl, N⟩ a hT
            replace H := H.new N; clear N
            refine Sx.st_eff hT rfl rfl rfl rfl (Sx.x_append hT rfl rfl Try.underlying29 Try.ti35 rfl (by decide) rfl rfl (H.row 3 rfl) ((H.blk 0 rfl).sv1 rfl) (Fr.one (⟨x.rg, x.at_, x.t, x.s, ad8, c8, x.ws⟩ : Fr)) (fun h => by cases h) (by unfold maxLen; omega) (by omega)) ?_
            rintro _ w35 ⟨ad35, c35, rfl, hr, E, hown, -⟩
            clear hT; intro a hT
            replace H := H.setR 3 rfl hr E hown rfl; clear hr E hown
            rw [snoc_g (f := (⟨x.rg, x.at_, x.t, x.s, ad8, c8, x.ws⟩ : Fr))] at H
            refine Sx.st_take hT rfl rfl rfl rfl (Sx.x_assign hT rfl rfl) ?_
            clear hT; intro a hT
            replace hT := hT.keep [9, 11, 159, 10, 59, 6, 27, 5, 20, 14, 3, 0, 1] rfl
            refine Sx.ser_nil ?_
            refine Sx.then_normal (hK62 _ _ ?_)
            clear hK62
            refine wp_seq_k fun K63 hK63 => ?_
            -- region 29 (ref.go:51)
            refine Sx.wp_text [(0, .take), (1, .take), (2, .take), (3, .take), (4, .take), (5, .run), (6, .take), (7, .take), (8, .run), (9, .take), (10, .take), (11, .run)] rfl ?_
            refine Sx.st_take hT rfl rfl rfl rfl (Sx.x_move hT rfl rfl) ?_
            clear hT; intro a hT
            refine Sx.st_take hT rfl rfl rfl rfl (Sx.x_move hT rfl rfl) ?_
            clear hT; intro a hT
            refine Sx.st_take hT rfl rfl rfl rfl (Sx.x_move hT rfl rfl) ?_
            clear hT; intro a hT
            refine Sx.st_take hT rfl rfl rfl rfl (Sx.x_nilCheck hT rfl rfl) ?_
            clear hT; intro a hT
            refine Sx.st_take hT rfl rfl rfl rfl (Sx.x_fieldAddr hT rfl Try.fa55_0 rfl) ?_
            clear hT; intro a hT
            refine Sx.st_run hT rfl rfl rfl rfl (Sx.x_load1 hT rfl Try.fl29 rfl ((H.blk 5 rfl).nth rfl)) ?_
            clear hT; intro a hT
            refine Sx.st_take hT rfl rfl rfl rfl (Sx.x_move hT rfl rfl) ?_
            clear hT; intro a hT
            refine Sx.st_take hT rfl rfl rfl rfl (Sx.x_slice_l (p := i) hT rfl Try.underlying29 Try.ti35 rfl rfl rfl (by omega)) ?_
            clear hT; intro a hT
            refine Sx.st_eff hT rfl rfl rfl rfl (Sx.x_append hT rfl rfl Try.underlying29 Try.ti35 rfl (by decide) rfl rfl (H.row 3 rfl) ((((H.at 6 rfl).1).sv).cut (lo := i) (hi := L.length) (by omega) (Nat.le_refl _) (H.at 6 rfl).2.1) (fun u hu => by rw [cut_g (by omega)] at hu; exact flat_one Fr.one _ u hu) (fun h => nilcut2 (H.at 6 rfl).2.2 h) (by unfold maxLen; omega) (by omega)) ?_
            rintro _ w36 ⟨ad36, c36, rfl, hr, E, hown, -⟩
            clear hT; intro a hT
            replace H := H.setR 3 rfl hr E hown rfl; clear hr E hown
            rw [cut_g (by omega), ← List.flatMap_append, List.append_assoc, List.singleton_append, hln] at H
            rw [hln] at hT
            refine Sx.st_take hT rfl rfl rfl rfl (Sx.x_nilCheck hT rfl rfl) ?_
            clear hT; intro a hT
            refine Sx.st_take hT rfl rfl rfl rfl (Sx.x_fieldAddr hT rfl Try.fa55_0 rfl) ?_
            clear hT; intro a hT
            refine Sx.st_act hT rfl rfl rfl (Sx.y_store1 hT rfl Try.ti29 rfl rfl rfl (H.blk 5 rfl) rfl) ?_
            rintro w37 ⟨hb, E, _⟩
            replace H := H.setB 5 rfl hb E rfl; clear hb E
            replace H := H.famPut (x := (⟨x.rg, x.at_, x.t, x.s, ad8, c8, x.ws⟩ : Fr)) 7 1 rfl rfl rfl rfl [0, 2, 3, 4, 5, 6] rfl rfl (show (L.take i ++ (⟨x.rg, x.at_, x.t, x.s, ad8, c8, x.ws⟩ : Fr) :: L.drop i).Perm ((⟨x.rg, x.at_, x.t, x.s, ad8, c8, x.ws⟩ : Fr) :: L) from List.perm_middle.trans (by rw [List.take_append_drop]))
            replace H := H.turn (q := fun w => Ss w _ Fr.cells 9 (L.take i ++ (⟨x.rg, x.at_, x.t, x.s, ad8, c8, x.ws⟩ : Fr) :: L.drop i) ∧ (L.take i ++ (⟨x.rg, x.at_, x.t, x.s, ad8, c8, x.ws⟩ : Fr) :: L.drop i).length ≤ _ ∧ (_ = none → (L.take i ++ (⟨x.rg, x.at_, x.t, x.s, ad8, c8, x.ws⟩ : Fr) :: L.drop i).length = 0 ∧ _ = 0)) 3 rfl (fun u hu => row_q rfl hu) rfl
            replace hT := hT.keep [9, 11, 159, 10, 59, 6, 27, 5, 20, 14, 3, 0, 1] rfl
            refine Sx.ser_nil ?_
            refine Sx.then_normal (hK63 _ _ ?_)
            clear hK63
            refine wp_seq_k fun K64 hK64 => ?_
            -- region 30 (ref.go:52)
            refine Sx.wp_text [(0, .take)] rfl ?_
            refine Sx.st_take hT rfl rfl rfl rfl (Sx.x_assign hT rfl rfl) ?_
            clear hT; intro a hT
            replace hT := hT.keep [4, 9, 11, 159, 10, 59, 6, 27, 5, 20, 14, 3, 0, 1] rfl
            refine Sx.ser_nil ?_
            refine Sx.then_normal (hK64 _ _ ?_)
            clear hK64
            refine wp_ret ?_
            refine Sx.done1 (fn := Try.f20) hT rfl (.tmp (hT.get 4 _ rfl)) ?_
            refine ⟨_, _, _, (L.take i ++ (⟨x.rg, x.at_, x.t, x.s, ad8, c8, x.ws⟩ : Fr) :: L.drop i), ?_, H.keep [5, 3, 0] rfl rfl, ?_⟩
            · rw [hadd]
            · rw [hmp]; unfold addL; rw [if_pos hadd]

end Go.Proofs.Ythhdoeflafakaaa
