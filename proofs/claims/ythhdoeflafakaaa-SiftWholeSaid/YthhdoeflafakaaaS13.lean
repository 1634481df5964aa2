/- Walks: SiftWhole. -/
import Derived.Test.YthhdoeflafakaaaS8
import Derived.Test.YthhdoeflafakaaaS12
set_option linter.unusedSimpArgs false
set_option linter.unusedVariables false
namespace Go.Proofs.Ythhdoeflafakaaa
open Sx
theorem Try.fa37_0 : Sx.FA Try.prog 37 0 0 := ⟨_, _, _, _, _, Try.underlying37, rfl, rfl, Try.ti3, by decide⟩
theorem Try.fa37_3 : Sx.FA Try.prog 37 3 11 := ⟨_, _, _, _, _, Try.underlying37, rfl, rfl, Try.ti28, by decide⟩
theorem Try.can3 : Sx.Can Try.prog 3 := ⟨_, Try.func3, by kernel_rfl, rfl⟩
theorem Try.can14 : Sx.Can Try.prog 14 := ⟨_, Try.func14, by kernel_rfl, rfl⟩
theorem _root_.Go.Sx.Hp.famCat {α : Type} {e : TypeId} {sz : Nat} {f : α → Rw} {w w0 : World} {S : Nat → Prop} {l rest : List Chunk} {L M : List α} (H : Hp w0 S w l) (i j : Nat) (hi : cget l i = some (cF e sz f L)) (hj : cget l j = some (cF e sz f M)) (hij : Nat.beq i j = false) (os : List Nat) (hn : nodup (i :: j :: os) = true) (hr : cpick l os = some rest) :
    Hp w0 S w (cF e sz f (L ++ M) :: rest) := by
  have K := H.merge i j hi hj os hn hr
  have hF := H.fam i hi
  have hG := H.fam j hj
  have hdis : ∀ k, fOwn f L k → ¬ fOwn f M k := fun k h1 h2 => by
    rw [cget_eq] at hi hj
    exact H.dis i j _ _ hi hj (fun h => by subst h; simp at hij) k h1 h2
  have fam' : Fam e sz f w (L ++ M) := ⟨fun x hx => (List.mem_append.1 hx).elim (hF.row x) (hG.row x), List.pairwise_append.2 ⟨hF.dis, hG.dis, fun a ha b hb k h1 h2 => hdis k ⟨a, ha, h1⟩ ⟨b, hb, h2⟩⟩⟩
  have hiff : ∀ k, fOwn f (L ++ M) k → fOwn f L k ∨ fOwn f M k := fun k ⟨x, hx, hk⟩ => (List.mem_append.1 hx).elim (fun h => .inl ⟨x, h, hk⟩) (fun h => .inr ⟨x, h, hk⟩)
  exact K.eff (d := cF e sz f (L ++ M)) 0 rfl (Ext.refl _ _) fam'.ck (fun k hk => ⟨fam'.lt hk, .inl (hiff k hk)⟩) rfl
theorem snoc_fr {I : List Fr} {f : Fr} : I.flatMap Fr.cells ++ [.int .i64 f.rg, .int .i64 f.at_, .int .i64 f.t.co, .int .i64 f.t.li, .int .i64 f.t.sq, .int .i64 f.s.w, .int .i64 f.s.l, .int .i64 f.s.n, .slice f.ad f.ws.length f.c] = (I ++ [f]).flatMap Fr.cells := by simp [Fr.cells]
theorem cat_en {I J : List En} : I.flatMap En.cells ++ J.flatMap En.cells = (I ++ J).flatMap En.cells := List.flatMap_append.symm
/-- the writes of what matches -/
def cntM (I : List Fr) (y : En) (k : Nat) : Nat := ((((I.map Fr.p).take k).filter (mt y.p)).flatMap Fp.ws).length
theorem cntM_step {I : List Fr} {y : En} {k : Nat} {x : Fr} (h : I[k]? = some x) : cntM I y (k + 1) = cntM I y k + if mt y.p x.p then x.ws.length else 0 := by
  unfold cntM
  rw [take_app (show (I.map Fr.p)[k]? = some x.p by rw [List.getElem?_map, h]; rfl), List.filter_append, List.flatMap_append, List.length_append]
  congr 1
  cases h9 : mt y.p x.p
  · rw [List.filter_cons_of_neg (by simp [h9])]; rfl
  · rw [List.filter_cons_of_pos h9]; simp [Fr.p]
theorem cntM_bd {I : List Fr} {y : En} (h : ∀ x ∈ I, x.ws.length ≤ 16) : ∀ k, k ≤ I.length → cntM I y k ≤ 16 * k
  | 0, _ => by simp [cntM]
  | k + 1, hk => by
    have hx : I[k]? = some I[k] := List.getElem?_eq_getElem hk
    rw [cntM_step hx]
    have h1 := cntM_bd (y := y) h k (by omega)
    have h2 := h I[k] (List.getElem_mem _)
    split <;> omega
theorem sum_map {I : List Fr} : sumN wlF (I.map Fr.p) = sumN (fun x => x.ws.length) I := by
  induction I with
  | nil => rfl
  | cons x r ih => simp only [List.map_cons, sumN, ih]; rfl
theorem sum_mapE {O : List En} : sumN wlE (O.map En.p) = sumN (fun y => y.ws.length) O := by
  induction O with
  | nil => rfl
  | cons x r ih => simp only [List.map_cons, sumN, ih]; rfl
theorem may_max {low : Stp} (h : mayS low = true) : ¬ ltS smax low := by
  have h1 := of_decide_eq_true h
  intro h2
  simp only [ltS, smax] at h2
  omega
theorem sum_tk {α : Type} (f : α → Nat) (l : List α) (k : Nat) : sumN f (l.take k) ≤ sumN f l := by
  conv => rhs; rw [← List.take_append_drop k l]
  rw [sumN_app]
  omega
/-- the transactions, told -/
theorem WI.entry {I : List Fr} {O : List En} {L : List Fr} {low last : Stp} (h : WI (I.map Fr.p) (O.map En.p) (L.map Fr.p) low last) {y : En} (hy : y ∈ O) :
    (y.ws.Pairwise fun a b => slt a.key b.key) ∧ 1 ≤ y.ws.length ∧ y.ws.length = cntM I y I.length ∧ ∀ x ∈ I, mt y.p x.p = true → ∀ v ∈ x.ws, v ∈ y.ws := by
  obtain ⟨a, b, c, -⟩ := h.out y.p (List.mem_map_of_mem hy)
  refine ⟨b, c, ?_, fun x hx hm v hv => ?_⟩
  · have := a.length_eq
    unfold cntM
    rw [List.take_of_length_le (by rw [List.length_map]; exact Nat.le_refl _)]
    exact this
  · refine a.mem_iff.2 (List.mem_flatMap.2 ⟨x.p, List.mem_filter.2 ⟨List.mem_map_of_mem hx, hm⟩, hv⟩)

theorem writes_calls {ad : Option Addr} {c : Nat} (l : List Wt) (q : Wt) {w : World} (hs : Ss w ad Wt.cells 4 l) (hl : l.length ≤ 1000000) (hr : l.Pairwise fun a b => slt a.key b.key) (hq : q ∈ l) : Calls Try.prog 14 #[.slice ad l.length c, .agg #[.string ⟨q.key.toArray⟩, .int .i64 q.v.k, .float .f64 q.v.num, .string ⟨q.v.tx.toArray⟩]] w fun e w' => e = .returned (.bool true) ∧ Ext No w w' := by
  have R : Ro w No _ := Ro.of fun w' x => hs.ext_no x
  refine Sx.calls_into Try.func14 rfl Try.ntmps14 rfl fun a hT => ?_
  replace hT := hT.keep [0, 1] rfl
  have H : Sx.Hp w (Sx.No) w [] := Sx.Hp.start _ _
  refine wp_seq_k fun K1 hK1 => ?_
  -- region 0 (law.go:167)
  refine Sx.wp_text [(0, .run), (1, .take)] rfl ?_
  refine Sx.st_eff hT rfl rfl rfl rfl (Sx.y_box hT rfl rfl rfl _) ?_
  clear hT; rintro _ w1 ⟨b1, rfl, N⟩ a hT
  replace H := H.new N; clear N
  refine Sx.st_take hT rfl rfl rfl rfl (Sx.x_assign hT rfl rfl) ?_
  clear hT; intro a hT
  replace hT := hT.keep [4, 3, 0, 1] rfl
  refine Sx.ser_nil ?_
  refine Sx.then_normal (hK1 _ _ ?_)
  clear hK1
  refine wp_seq_k fun K2 hK2 => ?_
  refine wp_seq_k fun K3 hK3 => ?_
  -- region 1 (law.go:168)
  refine Sx.wp_text [(0, .take)] rfl ?_
  refine Sx.st_take hT rfl rfl rfl rfl (Sx.x_assign hT rfl rfl) ?_
  clear hT; intro a hT
  replace hT := hT.keep [5, 4, 3, 0, 1] rfl
  refine Sx.ser_nil ?_
  refine Sx.then_normal (hK3 _ _ ?_)
  clear hK3
  refine wp_block ?_
  -- loop 0
  refine Sx.wp_loopH (G := Nat) (fun i => [(5, .int .i64 (i : Int))]) (fun i => []) (fun i => i ≤ l.length ∧ ∀ (t : Nat) x, t < i → l[t]? = some x → x.key ≠ q.key) (fun i => l.length - i) 0 (hT.keep [5, 3, 0, 1] rfl) (H.keep [0] rfl rfl) (⟨Nat.zero_le _, fun t x h => by omega⟩) ?_
  clear hT H
  rintro i a w2 hJ hT H
  replace hT := hT.keep [5, 3, 0, 1] rfl
  replace H := H.keep [0] rfl rfl
  obtain ⟨hi, hno⟩ := hJ
  refine wp_seq_k fun K4 hK4 => ?_
  refine wp_seq_k fun K5 hK5 => ?_
  -- region 2 (law.go:168)
  refine Sx.wp_text [(0, .take), (1, .take), (2, .take), (3, .take)] rfl ?_
  refine Sx.st_take hT rfl rfl rfl rfl (Sx.x_move hT rfl rfl) ?_
  clear hT; intro a hT
  refine Sx.st_take hT rfl rfl rfl rfl (Sx.x_move hT rfl rfl) ?_
  clear hT; intro a hT
  refine Sx.st_take hT rfl rfl rfl rfl (Sx.x_len_slice hT rfl rfl Try.underlying33 rfl) ?_
  clear hT; intro a hT
  refine Sx.st_take hT rfl rfl rfl rfl ((fun w => Sx.x_lt w hT rfl rfl rfl)) ?_
  clear hT; intro a hT
  replace hT := hT.keep [9, 5, 3, 0, 1] rfl
  refine Sx.ser_nil ?_
  refine Sx.then_normal (hK5 _ _ ?_)
  clear hK5
  -- cond 0
  refine Sx.wp_if hT rfl (fun hc6 => ?_) (fun hc6 => ?_)
  · try simp only [decide_eq_true_eq, decide_eq_false_iff_not, Bool.not_eq_true', Bool.not_eq_false', Bool.not_eq_true, Bool.not_eq_false, Bool.and_eq_true, Bool.or_eq_false_iff, beq_iff_eq, bne_iff_ne, Int.not_lt, Int.not_le, ne_eq] at hc6
    obtain ⟨o, ho⟩ : ∃ o, l[i]? = some o := ⟨_, List.getElem?_eq_getElem (by omega)⟩
    refine wp_skip ?_
    refine Sx.then_normal (hK4 _ _ ?_)
    clear hK4
    refine wp_seq_k fun K7 hK7 => ?_
    refine wp_block ?_
    refine wp_seq_k fun K8 hK8 => ?_
    -- region 4 (law.go:169)
    refine Sx.wp_draws (fun u => Sx.Ext (Sx.No) u) [(0, .take), (1, .take), (2, .take), (3, .take), (4, .held), (5, .take), (6, .held), (7, .take)] (by kernel_rfl) (by kernel_rfl) (fun u E _ => ?_)
    replace H := H.pure E; clear E
    have hH : Sx.Ext (Sx.No) u u := Sx.Ext.refl _ _
    have Hu := H
    refine Sx.st_take hT rfl rfl rfl rfl (Sx.x_move hT rfl rfl) ?_
    clear hT; intro a hT
    refine Sx.st_take hT rfl rfl rfl rfl (Sx.x_move hT rfl rfl) ?_
    clear hT; intro a hT
    refine Sx.st_take hT rfl rfl rfl rfl (Sx.x_index (k := i) hT rfl Try.underlying33 Try.ti50 (by assumption) rfl rfl (by first | rfl | omega) (by omega)) ?_
    clear hT; intro a hT
    refine Sx.st_take hT rfl rfl rfl rfl (Sx.x_fieldAddr hT rfl Try.fa50_0 rfl) ?_
    clear hT; intro a hT
    refine Sx.st_held hT rfl rfl rfl rfl hH (fun w' h' => Sx.x_load1 hT rfl Try.fl9 rfl (by first | exact ((Hu.heldB 0 rfl h' Sx.off_No).nth rfl) | exact ((R.at (Hu.ext.step h')).cell (j := 0) Wt.len ho rfl))) ?_
    clear hT; intro a hT
    refine Sx.st_take hT rfl rfl rfl rfl (Sx.x_fieldAddr hT rfl Try.fa50_0 rfl) ?_
    clear hT; intro a hT
    refine Sx.st_held hT rfl rfl rfl rfl hH (fun w' h' => Sx.x_load1 hT rfl Try.fl9 rfl ((Hu.heldB 0 rfl h' Sx.off_No).nth rfl)) ?_
    clear hT; intro a hT
    refine Sx.st_take hT rfl rfl rfl rfl ((fun w => Sx.x_streq w hT rfl rfl rfl)) ?_
    clear hT; intro a hT
    replace hT := hT.keep [19, 9, 5, 3, 0, 1] rfl
    clear Hu hH
    refine Sx.ser_calm ?_
    refine Sx.then_normal (hK8 _ _ ?_)
    clear hK8
    -- cond 1
    refine Sx.wp_if hT rfl (fun hc9 => ?_) (fun hc9 => ?_)
    · try simp only [decide_eq_true_eq, decide_eq_false_iff_not, Bool.not_eq_true', Bool.not_eq_false', Bool.not_eq_true, Bool.not_eq_false, Bool.and_eq_true, Bool.or_eq_false_iff, beq_iff_eq, bne_iff_ne, Int.not_lt, Int.not_le, ne_eq] at hc9
      have hke : o.key = q.key := by simpa using hc9
      have hoq : o = q := find_rise hr hq ho hke
      refine wp_seq_k fun K10 hK10 => ?_
      -- region 5 (law.go:170)
      refine Sx.wp_draws (fun u => Sx.Ext (Sx.No) u) [(0, .take), (1, .take), (2, .take), (3, .take), (4, .held), (5, .take), (6, .held), (7, .run), (8, .take)] (by kernel_rfl) (by kernel_rfl) (fun u E _ => ?_)
      replace H := H.pure E; clear E
      have hH : Sx.Ext (Sx.No) u u := Sx.Ext.refl _ _
      have Hu := H
      refine Sx.st_take hT rfl rfl rfl rfl (Sx.x_move hT rfl rfl) ?_
      clear hT; intro a hT
      refine Sx.st_take hT rfl rfl rfl rfl (Sx.x_move hT rfl rfl) ?_
      clear hT; intro a hT
      refine Sx.st_take hT rfl rfl rfl rfl (Sx.x_index (k := i) hT rfl Try.underlying33 Try.ti50 (by assumption) rfl rfl (by first | rfl | omega) (by omega)) ?_
      clear hT; intro a hT
      refine Sx.st_take hT rfl rfl rfl rfl (Sx.x_fieldAddr hT rfl Try.fa50_1 rfl) ?_
      clear hT; intro a hT
      refine Sx.st_held hT rfl rfl rfl rfl hH (fun w' h' => Sx.y_loadS hT rfl Try.underlying48 Try.ti48 rfl (by first | exact ((Hu.heldB 0 rfl h' Sx.off_No).seg (k := 3) rfl) | exact (((R.at (Hu.ext.step h')).cs Wt.len ho).seg (i := 1) (k := 3) rfl)) (by rfl)) ?_
      clear hT; intro a hT
      refine Sx.st_take hT rfl rfl rfl rfl (Sx.x_fieldAddr hT rfl Try.fa50_1 rfl) ?_
      clear hT; intro a hT
      refine Sx.st_held hT rfl rfl rfl rfl hH (fun w' h' => Sx.y_loadS hT rfl Try.underlying48 Try.ti48 rfl ((Hu.heldB 0 rfl h' Sx.off_No).seg (k := 3) rfl) (by rfl)) ?_
      clear hT; intro a hT
      refine Sx.st_call hT rfl rfl rfl rfl rfl Try.can42 rfl (Value_calls o.v q.v _) ?_
      rintro _ w3 ⟨rfl, E⟩
      refine ⟨_, rfl, ?_⟩
      clear hT; intro a hT
      replace H := H.pure E; clear E
      refine Sx.st_take hT rfl rfl rfl rfl (Sx.x_assign hT rfl rfl) ?_
      clear hT; intro a hT
      replace hT := hT.keep [4, 19, 9, 5, 3, 0, 1] rfl
      clear Hu hH
      refine Sx.ser_calm ?_
      refine Sx.then_normal (hK10 _ _ ?_)
      clear hK10
      refine wp_ret ?_
      refine Sx.block_ret ?_
      refine Sx.then_ret ?_
      refine Sx.then_ret ?_
      refine Sx.block_ret ?_
      refine Sx.then_ret ?_
      refine Sx.done1 (fn := Try.f14) hT rfl (.tmp (hT.get 4 _ rfl)) ?_
      exact ⟨ret_b (by rw [hoq]; simp), H.ext⟩
    · try simp only [decide_eq_true_eq, decide_eq_false_iff_not, Bool.not_eq_true', Bool.not_eq_false', Bool.not_eq_true, Bool.not_eq_false, Bool.and_eq_true, Bool.or_eq_false_iff, beq_iff_eq, bne_iff_ne, Int.not_lt, Int.not_le, ne_eq] at hc9
      have hne : o.key ≠ q.key := by simpa using hc9
      refine wp_skip ?_
      refine Sx.block_normal ?_
      refine Sx.then_normal (hK7 _ _ ?_)
      clear hK7
      -- region 3 (law.go:168)
      refine Sx.wp_text [(0, .take), (1, .take), (2, .take)] rfl ?_
      refine Sx.st_take hT rfl rfl rfl rfl (Sx.x_move hT rfl rfl) ?_
      clear hT; intro a hT
      refine Sx.st_take hT rfl rfl rfl rfl ((fun w => Sx.x_add w hT rfl rfl rfl (Sx.wrap64 (by omega)))) ?_
      clear hT; intro a hT
      refine Sx.st_take hT rfl rfl rfl rfl (Sx.x_assign hT rfl rfl) ?_
      clear hT; intro a hT
      replace hT := hT.keep [5, 19, 9, 3, 0, 1] rfl
      refine Sx.ser_nil ?_
      refine Sx.then_normal ?_
      exact ⟨i + 1, ⟨by omega, fun t x h3 h4 => by rcases Nat.lt_or_ge t i with h5 | h5; exact hno t x h5 h4; obtain rfl : t = i := (by omega); rw [ho] at h4; cases h4; exact hne⟩, (hT.keep [5, 3, 0, 1] rfl), (H.keep [0] rfl rfl), by omega⟩
  · try simp only [decide_eq_true_eq, decide_eq_false_iff_not, Bool.not_eq_true', Bool.not_eq_false', Bool.not_eq_true, Bool.not_eq_false, Bool.and_eq_true, Bool.or_eq_false_iff, beq_iff_eq, bne_iff_ne, Int.not_lt, Int.not_le, ne_eq] at hc6
    refine wp_exit ?_
    refine Sx.then_exit ?_
    refine Sx.then_exit ?_
    refine Sx.block_exit ?_
    refine Sx.then_normal (hK2 _ _ ?_)
    clear hK2
    refine wp_seq_k fun K11 hK11 => ?_
    -- region 6 (law.go:173)
    refine Sx.wp_text [(0, .take)] rfl ?_
    refine Sx.st_take hT rfl rfl rfl rfl (Sx.x_assign hT rfl rfl) ?_
    clear hT; intro a hT
    replace hT := hT.keep [4, 9, 5, 3, 0, 1] rfl
    refine Sx.ser_nil ?_
    refine Sx.then_normal (hK11 _ _ ?_)
    clear hK11
    refine wp_ret ?_
    refine Sx.done1 (fn := Try.f14) hT rfl (.tmp (hT.get 4 _ rfl)) ?_
    obtain ⟨t9, ht9⟩ := List.mem_iff_getElem?.1 hq
    exact absurd rfl (hno t9 q (by have := (List.getElem?_eq_some_iff.1 ht9).1; omega) ht9)

set_option maxHeartbeats 4000000 in
theorem Whole_all {ad : Option Addr} {c : Nat} (l : List Op) {w : World} (hs : Ss w ad Op.cells 14 l) (hw : ∀ x ∈ l, Ss w x.f.ad Wt.cells 4 x.f.ws ∧ (∀ y ∈ x.f.ws, y.wf) ∧ (x.f.ad = none → x.f.ws.length = 0 ∧ x.f.c = 0) ∧ x.f.ws.length ≤ 9223372036854775806) (hl : l.length ≤ 9223372036854775806) : Calls Try.prog 3 #[.slice ad l.length c] w fun e w' => e = .returned (.bool true) ∧ Ext No w w' := by
  have R : Ro w No _ := Ro.of fun w' x => hs.ext_no x
  have RM : Ro w No (fun u => ∀ x ∈ l, Ss u x.f.ad Wt.cells 4 x.f.ws) := Ro.of fun w' x y hy => ((hw y hy).1).ext_no x
  refine Sx.calls_into Try.func3 rfl Try.ntmps3 rfl fun a hT => ?_
  replace hT := hT.keep [0] rfl
  have H : Sx.Hp w (Sx.No) w [] := Sx.Hp.start _ _
  refine wp_seq_k fun K1 hK1 => ?_
  -- region 0 (law.go:98)
  refine Sx.wp_text [(0, .take)] rfl ?_
  refine Sx.st_take hT rfl rfl rfl rfl (Sx.x_assign hT rfl rfl) ?_
  clear hT; intro a hT
  replace hT := hT.keep [2, 0] rfl
  refine Sx.ser_nil ?_
  refine Sx.then_normal (hK1 _ _ ?_)
  clear hK1
  refine wp_seq_k fun K2 hK2 => ?_
  refine wp_seq_k fun K3 hK3 => ?_
  -- region 1 (law.go:99)
  refine Sx.wp_text [(0, .run), (1, .take)] rfl ?_
  refine Sx.st_call hT rfl rfl rfl rfl rfl Try.can7 rfl (first_calls _) ?_
  rintro _ w1 ⟨rfl, E⟩
  refine ⟨_, rfl, ?_⟩
  clear hT; intro a hT
  replace H := H.pure E; clear E
  refine Sx.st_take hT rfl rfl rfl rfl (Sx.x_not hT rfl rfl) ?_
  clear hT; intro a hT
  replace hT := hT.keep [21, 2, 0] rfl
  refine Sx.ser_nil ?_
  refine Sx.then_normal (hK3 _ _ ?_)
  clear hK3
  refine Sx.wp_if hT rfl (fun h => by cases h) (fun _ => ?_)
  refine wp_skip ?_
  refine Sx.then_normal (hK2 _ _ ?_)
  clear hK2
  refine wp_seq_k fun K4 hK4 => ?_
  refine wp_seq_k fun K5 hK5 => ?_
  -- region 3 (law.go:102)
  refine Sx.wp_text [(0, .take), (1, .run), (2, .take)] rfl ?_
  refine Sx.st_take hT rfl rfl rfl rfl (Sx.x_move hT rfl rfl) ?_
  clear hT; intro a hT
  refine Sx.st_call hT rfl rfl rfl rfl rfl Try.can8 rfl (few_calls l (R.at H.ext) (fun x hx => ⟨(RM.at H.ext) x hx, (hw x hx).2⟩) hl) ?_
  rintro _ w2 ⟨b9, rfl, hb9, E⟩
  refine ⟨_, rfl, ?_⟩
  clear hT; intro a hT
  replace H := H.pure E; clear E
  refine Sx.st_take hT rfl rfl rfl rfl (Sx.x_not hT rfl rfl) ?_
  clear hT; intro a hT
  replace hT := hT.keep [24, 21, 2, 0] rfl
  refine Sx.ser_nil ?_
  refine Sx.then_normal (hK5 _ _ ?_)
  clear hK5
  -- cond 1
  refine Sx.wp_if hT rfl (fun hc6 => ?_) (fun hc6 => ?_)
  · try simp only [decide_eq_true_eq, decide_eq_false_iff_not, Bool.not_eq_true', Bool.not_eq_false', Bool.not_eq_true, Bool.not_eq_false, Bool.and_eq_true, Bool.or_eq_false_iff, beq_iff_eq, bne_iff_ne, Int.not_lt, Int.not_le, ne_eq] at hc6
    refine wp_seq_k fun K7 hK7 => ?_
    -- region 4 (law.go:103)
    refine Sx.wp_text [(0, .run), (1, .take)] rfl ?_
    refine Sx.st_call hT rfl rfl rfl rfl rfl Try.can7 rfl (first_calls _) ?_
    rintro _ w3 ⟨rfl, E⟩
    refine ⟨_, rfl, ?_⟩
    clear hT; intro a hT
    replace H := H.pure E; clear E
    refine Sx.st_take hT rfl rfl rfl rfl (Sx.x_assign hT rfl rfl) ?_
    clear hT; intro a hT
    replace hT := hT.keep [2, 24, 21, 0] rfl
    refine Sx.ser_nil ?_
    refine Sx.then_normal (hK7 _ _ ?_)
    clear hK7
    refine wp_ret ?_
    refine Sx.then_ret ?_
    refine Sx.done1 (fn := Try.f3) hT rfl (.tmp (hT.get 2 _ rfl)) ?_
    exact ⟨ret_b (by simp), H.ext⟩
  · try simp only [decide_eq_true_eq, decide_eq_false_iff_not, Bool.not_eq_true', Bool.not_eq_false', Bool.not_eq_true, Bool.not_eq_false, Bool.and_eq_true, Bool.or_eq_false_iff, beq_iff_eq, bne_iff_ne, Int.not_lt, Int.not_le, ne_eq] at hc6
    obtain ⟨hl3, hws⟩ := hb9 (by simpa using hc6)
    refine wp_skip ?_
    refine Sx.then_normal (hK4 _ _ ?_)
    clear hK4
    refine wp_seq_k fun K8 hK8 => ?_
    -- region 5 (law.go:105)
    refine Sx.wp_text [(0, .run), (1, .take)] rfl ?_
    refine Sx.st_call hT rfl rfl rfl rfl rfl Try.can9 rfl (SNew_calls _) ?_
    rintro _ w4 ⟨p, rfl, K⟩
    refine ⟨_, rfl, ?_⟩
    clear hT; intro a hT
    replace H := H.more K rfl; clear K
    refine Sx.st_take hT rfl rfl rfl rfl (Sx.x_assign hT rfl rfl) ?_
    clear hT; intro a hT
    replace hT := hT.keep [3, 24, 21, 2, 0] rfl
    refine Sx.ser_nil ?_
    refine Sx.then_normal (hK8 _ _ ?_)
    clear hK8
    refine wp_seq_k fun K9 hK9 => ?_
    refine wp_seq_k fun K10 hK10 => ?_
    -- region 6 (law.go:106)
    refine Sx.wp_text [(0, .take), (1, .take)] rfl ?_
    refine Sx.st_take hT rfl rfl rfl rfl (Sx.x_move hT rfl rfl) ?_
    clear hT; intro a hT
    refine Sx.st_take hT rfl rfl rfl rfl (Sx.x_eqnil_some hT rfl Try.underlying25 rfl rfl) ?_
    clear hT; intro a hT
    replace hT := hT.keep [28, 3, 24, 21, 2, 0] rfl
    refine Sx.ser_nil ?_
    refine Sx.then_normal (hK10 _ _ ?_)
    clear hK10
    refine Sx.wp_if hT rfl (fun h => by cases h) (fun _ => ?_)
    refine wp_skip ?_
    refine Sx.then_normal (hK9 _ _ ?_)
    clear hK9
    refine wp_seq_k fun K11 hK11 => ?_
    -- region 8 (law.go:109)
    refine Sx.wp_text [(0, .take), (1, .run), (2, .run)] rfl ?_
    refine Sx.st_take hT rfl rfl rfl rfl (Sx.x_bld hT rfl Try.bld28 rfl rfl) ?_
    clear hT; intro a hT
    refine Sx.st_eff hT rfl rfl rfl rfl (Sx.y_alloc hT rfl Try.ti28 rfl _) ?_
    clear hT; rintro _ w5 ⟨b1, rfl, N⟩ a hT
    replace H := H.new N; clear N
    refine Sx.st_act hT rfl rfl rfl (Sx.y_storeS hT rfl Try.ti28 rfl rfl rfl rfl rfl (H.blk 0 rfl) rfl) ?_
    rintro w6 ⟨hb, E, _⟩
    replace H := H.setB 0 rfl hb E rfl; clear hb E
    replace hT := hT.keep [4, 28, 3, 24, 21, 2, 0] rfl
    refine Sx.ser_nil ?_
    refine Sx.then_normal (hK11 _ _ ?_)
    clear hK11
    refine wp_seq_k fun K12 hK12 => ?_
    -- region 9 (law.go:110)
    refine Sx.wp_text [(0, .take), (1, .run), (2, .run)] rfl ?_
    refine Sx.st_take hT rfl rfl rfl rfl (Sx.x_bld hT rfl Try.bld28 rfl rfl) ?_
    clear hT; intro a hT
    refine Sx.st_eff hT rfl rfl rfl rfl (Sx.y_alloc hT rfl Try.ti28 rfl _) ?_
    clear hT; rintro _ w7 ⟨b2, rfl, N⟩ a hT
    replace H := H.new N; clear N
    refine Sx.st_act hT rfl rfl rfl (Sx.y_storeS hT rfl Try.ti28 rfl rfl rfl rfl rfl (H.blk 0 rfl) rfl) ?_
    rintro w8 ⟨hb, E, _⟩
    replace H := H.setB 0 rfl hb E rfl; clear hb E
    replace hT := hT.keep [5, 4, 28, 3, 24, 21, 2, 0] rfl
    refine Sx.ser_nil ?_
    refine Sx.then_normal (hK12 _ _ ?_)
    clear hK12
    refine wp_seq_k fun K13 hK13 => ?_
    -- region 10 (law.go:111)
    refine Sx.wp_text [(0, .take)] rfl ?_
    refine Sx.st_take hT rfl rfl rfl rfl (Sx.x_assign hT rfl rfl) ?_
    clear hT; intro a hT
    replace hT := hT.keep [6, 5, 4, 28, 3, 24, 21, 2, 0] rfl
    refine Sx.ser_nil ?_
    refine Sx.then_normal (hK13 _ _ ?_)
    clear hK13
    refine wp_seq_k fun K14 hK14 => ?_
    -- region 11 (law.go:112)
    refine Sx.wp_text [(0, .take)] rfl ?_
    refine Sx.st_take hT rfl rfl rfl rfl (Sx.x_assign hT rfl rfl) ?_
    clear hT; intro a hT
    replace hT := hT.keep [7, 6, 5, 4, 28, 3, 24, 21, 2, 0] rfl
    refine Sx.ser_nil ?_
    refine Sx.then_normal (hK14 _ _ ?_)
    clear hK14
    refine wp_seq_k fun K15 hK15 => ?_
    refine wp_seq_k fun K16 hK16 => ?_
    -- region 12 (law.go:113)
    refine Sx.wp_text [(0, .take)] rfl ?_
    refine Sx.st_take hT rfl rfl rfl rfl (Sx.x_assign hT rfl rfl) ?_
    clear hT; intro a hT
    replace hT := hT.keep [8, 7, 6, 5, 4, 28, 3, 24, 21, 2, 0] rfl
    refine Sx.ser_nil ?_
    refine Sx.then_normal (hK16 _ _ ?_)
    clear hK16
    refine wp_block ?_
    replace H := ((H.nilR 35 9).nilR 44 7).famNil 50 4 En.rw
    -- loop 0
    refine Sx.wp_loopH (G := Nat × Stp × Stp × List Fr × Option Addr × Nat × List En × Option Addr × Nat × List Fr × Option Addr × Nat) (fun ⟨i, low, last, I, adi, ci, O, ado, co, L, ad1, c1⟩ => [(8, .int .i64 (i : Int)), (6, .slice adi I.length ci), (7, .slice ado O.length co)]) (fun ⟨i, low, last, I, adi, ci, O, ado, co, L, ad1, c1⟩ => [cB b1 [.int .i64 low.w, .int .i64 low.l, .int .i64 low.n] 28, cB b2 [.int .i64 last.w, .int .i64 last.l, .int .i64 last.n] 28, cR 35 9 adi (I).length ci ((I).flatMap Fr.cells), cR 44 7 ado (O).length co ((O).flatMap En.cells), cF 50 4 En.rw (O), cB p [.slice ad1 (List.length L) c1] 68, cR 35 9 ad1 (L).length c1 ((L).flatMap Fr.cells), cF 50 4 Fr.rw (L)]) (fun ⟨i, low, last, I, adi, ci, O, ado, co, L, ad1, c1⟩ => i ≤ l.length + 1 ∧ WI (I.map Fr.p) (O.map En.p) (L.map Fr.p) low last ∧ I.length ≤ i ∧ (∀ x ∈ I, ∃ o ∈ l, o.f = x) ∧ mayS low = true ∧ (l.length + 1 ≤ i → L = [])) (fun ⟨i, low, last, I, adi, ci, O, ado, co, L, ad1, c1⟩ => l.length + 1 - i) (0, sz0, sz0, [], none, 0, [], none, 0, [], none, 0) (hT.keep [8, 6, 7, 5, 4, 28, 3, 24, 21, 0] rfl) (H.keep [4, 3, 2, 1, 0, 5, 6, 7] rfl rfl) (⟨Nat.zero_le _, WI.nil, Nat.le_refl _, (fun x h => by simp at h), (by decide), fun h => rfl⟩) ?_
    clear hT H
    rintro ⟨i, low, last, I, adi, ci, O, ado, co, L, ad1, c1⟩ a w9 hJ hT H
    replace hT := hT.keep [8, 6, 7, 5, 4, 28, 3, 24, 21, 0] rfl
    replace H := H.keep [0, 1, 2, 3, 4, 5, 6, 7] rfl rfl
    obtain ⟨hi, hWI, hIi, hIl, hmlow, hLn⟩ := hJ
    refine wp_seq_k fun K17 hK17 => ?_
    refine wp_seq_k fun K18 hK18 => ?_
    -- region 13 (law.go:113)
    refine Sx.wp_text [(0, .take), (1, .take), (2, .take), (3, .take)] rfl ?_
    refine Sx.st_take hT rfl rfl rfl rfl (Sx.x_move hT rfl rfl) ?_
    clear hT; intro a hT
    refine Sx.st_take hT rfl rfl rfl rfl (Sx.x_move hT rfl rfl) ?_
    clear hT; intro a hT
    refine Sx.st_take hT rfl rfl rfl rfl (Sx.x_len_slice hT rfl rfl Try.underlying22 rfl) ?_
    clear hT; intro a hT
    refine Sx.st_take hT rfl rfl rfl rfl ((fun w => Sx.x_le w hT rfl rfl rfl)) ?_
    clear hT; intro a hT
    replace hT := hT.keep [34, 8, 6, 7, 5, 4, 28, 3, 24, 21, 0] rfl
    refine Sx.ser_nil ?_
    refine Sx.then_normal (hK18 _ _ ?_)
    clear hK18
    -- cond 3
    refine Sx.wp_if hT rfl (fun hc19 => ?_) (fun hc19 => ?_)
    · try simp only [decide_eq_true_eq, decide_eq_false_iff_not, Bool.not_eq_true', Bool.not_eq_false', Bool.not_eq_true, Bool.not_eq_false, Bool.and_eq_true, Bool.or_eq_false_iff, beq_iff_eq, bne_iff_ne, Int.not_lt, Int.not_le, ne_eq] at hc19
      skip
      refine wp_skip ?_
      refine Sx.then_normal (hK17 _ _ ?_)
      clear hK17
      refine wp_seq_k fun K20 hK20 => ?_
      refine wp_block ?_
      refine wp_seq_k fun K21 hK21 => ?_
      -- region 15 (law.go:114)
      refine Sx.wp_text [(0, .take), (1, .run), (2, .run)] rfl ?_
      refine Sx.st_take hT rfl rfl rfl rfl (Sx.x_bld hT rfl Try.bld28 rfl rfl) ?_
      clear hT; intro a hT
      refine Sx.st_eff hT rfl rfl rfl rfl (Sx.y_alloc hT rfl Try.ti28 rfl _) ?_
      clear hT; rintro _ w10 ⟨b3, rfl, N⟩ a hT
      replace H := H.new N; clear N
      refine Sx.st_act hT rfl rfl rfl (Sx.y_storeS hT rfl Try.ti28 rfl rfl rfl rfl rfl (H.blk 0 rfl) rfl) ?_
      rintro w11 ⟨hb, E, _⟩
      replace H := H.setB 0 rfl hb E rfl; clear hb E
      replace hT := hT.keep [9, 34, 8, 6, 7, 5, 4, 28, 3, 24, 21, 0] rfl
      refine Sx.ser_nil ?_
      refine Sx.then_normal (hK21 _ _ ?_)
      clear hK21
      refine wp_seq_k fun K22 hK22 => ?_
      refine wp_seq_k fun K23 hK23 => ?_
      -- region 16 (law.go:115)
      refine Sx.wp_text [(0, .take), (1, .take), (2, .take), (3, .take)] rfl ?_
      refine Sx.st_take hT rfl rfl rfl rfl (Sx.x_move hT rfl rfl) ?_
      clear hT; intro a hT
      refine Sx.st_take hT rfl rfl rfl rfl (Sx.x_move hT rfl rfl) ?_
      clear hT; intro a hT
      refine Sx.st_take hT rfl rfl rfl rfl (Sx.x_len_slice hT rfl rfl Try.underlying22 rfl) ?_
      clear hT; intro a hT
      refine Sx.st_take hT rfl rfl rfl rfl ((fun w => Sx.x_lt w hT rfl rfl rfl)) ?_
      clear hT; intro a hT
      replace hT := hT.keep [41, 9, 34, 8, 6, 7, 5, 4, 28, 3, 24, 21, 0] rfl
      refine Sx.ser_nil ?_
      refine Sx.then_normal (hK23 _ _ ?_)
      clear hK23
      -- cond 4
      refine Sx.wp_if hT rfl (fun hc24 => ?_) (fun hc24 => ?_)
      · try simp only [decide_eq_true_eq, decide_eq_false_iff_not, Bool.not_eq_true', Bool.not_eq_false', Bool.not_eq_true, Bool.not_eq_false, Bool.and_eq_true, Bool.or_eq_false_iff, beq_iff_eq, bne_iff_ne, Int.not_lt, Int.not_le, ne_eq] at hc24
        obtain ⟨o, ho⟩ : ∃ o, l[i]? = some o := ⟨_, List.getElem?_eq_getElem (by omega)⟩
        have hom := List.mem_of_getElem? ho
        obtain ⟨-, -, hon, -⟩ := hw o hom
        have how := hws o hom
        have RMx : Ro w No (fun u => Ss u o.f.ad Wt.cells 4 o.f.ws) := RM.mono fun u h => h o hom
        have hWl := hWI.len
        rw [List.length_map, List.length_map, List.length_map] at hWl
        -- region 17 (law.go:116)
        refine Sx.wp_text [(0, .take), (1, .take), (2, .take), (3, .take), (4, .run), (5, .run)] rfl ?_
        refine Sx.st_take hT rfl rfl rfl rfl (Sx.x_move hT rfl rfl) ?_
        clear hT; intro a hT
        refine Sx.st_take hT rfl rfl rfl rfl (Sx.x_move hT rfl rfl) ?_
        clear hT; intro a hT
        refine Sx.st_take hT rfl rfl rfl rfl (Sx.x_index (k := i) hT rfl Try.underlying22 Try.ti37 (R.at H.ext).sv rfl rfl (by first | rfl | omega) (by omega)) ?_
        clear hT; intro a hT
        refine Sx.st_take hT rfl rfl rfl rfl (Sx.x_fieldAddr hT rfl Try.fa37_3 rfl) ?_
        clear hT; intro a hT
        refine Sx.st_run hT rfl rfl rfl rfl (Sx.y_loadS hT rfl Try.underlying28 Try.ti28 rfl (((R.at H.ext).cs Op.len ho).seg (i := 11) (k := 3) rfl) (by rfl)) ?_
        clear hT; intro a hT
        refine Sx.st_act hT rfl rfl rfl (Sx.y_storeS hT rfl Try.ti28 rfl rfl rfl rfl rfl (H.blk 0 rfl) rfl) ?_
        rintro w12 ⟨hb, E, _⟩
        replace H := H.setB 0 rfl hb E rfl; clear hb E
        replace hT := hT.keep [41, 9, 34, 8, 6, 7, 5, 4, 28, 3, 24, 21, 0] rfl
        refine Sx.ser_nil ?_
        refine Sx.then_normal (hK22 _ _ ?_)
        clear hK22
        refine wp_block ?_
        refine wp_seq_k fun K25 hK25 => ?_
        -- region 18 (law.go:119)
        refine Sx.wp_text [(0, .take), (1, .take), (2, .take), (3, .take), (4, .take), (5, .take), (6, .take), (7, .take), (8, .take), (9, .run), (10, .take), (11, .take), (12, .take)] rfl ?_
        refine Sx.st_take hT rfl rfl rfl rfl (Sx.x_move hT rfl rfl) ?_
        clear hT; intro a hT
        refine Sx.st_take hT rfl rfl rfl rfl (Sx.x_move hT rfl rfl) ?_
        clear hT; intro a hT
        refine Sx.st_take hT rfl rfl rfl rfl (Sx.x_len_slice hT rfl rfl Try.underlying22 rfl) ?_
        clear hT; intro a hT
        refine Sx.st_take hT rfl rfl rfl rfl ((fun w => Sx.x_lt w hT rfl rfl rfl)) ?_
        clear hT; intro a hT
        refine Sx.st_take hT rfl rfl rfl rfl (Sx.x_move hT rfl rfl) ?_
        clear hT; intro a hT
        -- guard (18, 4)
        refine Sx.Sl.two hT 52 rfl (fun hc26 hT => ?_) (fun hc26 hT => ?_)
        · try simp only [decide_eq_true_eq, decide_eq_false_iff_not, Bool.not_eq_true', Bool.not_eq_false', Bool.not_eq_true, Bool.not_eq_false, Bool.and_eq_true, Bool.or_eq_false_iff, beq_iff_eq, bne_iff_ne, Int.not_lt, Int.not_le, ne_eq] at hc26
          refine Sx.st_take hT rfl rfl rfl rfl (Sx.x_move hT rfl rfl) ?_
          clear hT; intro a hT
          refine Sx.st_take hT rfl rfl rfl rfl (Sx.x_move hT rfl rfl) ?_
          clear hT; intro a hT
          refine Sx.st_take hT rfl rfl rfl rfl (Sx.x_index (k := i) hT rfl Try.underlying22 Try.ti37 (R.at H.ext).sv rfl rfl (by first | rfl | omega) (by omega)) ?_
          clear hT; intro a hT
          refine Sx.st_take hT rfl rfl rfl rfl (Sx.x_fieldAddr hT rfl Try.fa37_0 rfl) ?_
          clear hT; intro a hT
          refine Sx.st_run hT rfl rfl rfl rfl (Sx.x_load1 hT rfl Try.fl3 rfl (by first | exact ((H.blk 0 rfl).nth rfl) | exact ((H.blk 1 rfl).nth rfl) | exact ((H.blk 2 rfl).nth rfl) | exact ((H.blk 6 rfl).nth rfl) | exact ((R.at H.ext).cell (j := 0) Op.len ho rfl))) ?_
          clear hT; intro a hT
          refine Sx.st_take hT rfl rfl rfl rfl ((fun w => Sx.x_eq w hT rfl rfl rfl)) ?_
          clear hT; intro a hT
          refine Sx.st_take hT rfl rfl rfl rfl (Sx.x_pick_t hT rfl rfl rfl) ?_
          clear hT; intro a hT
          refine Sx.st_take hT rfl rfl rfl rfl (Sx.x_assign hT rfl rfl) ?_
          clear hT; intro a hT
          replace hT := hT.keep [47, 41, 9, 34, 8, 6, 7, 5, 4, 28, 3, 24, 21, 0] rfl
          refine Sx.ser_nil ?_
          refine Sx.then_normal (hK25 _ _ ?_)
          clear hK25
          -- cond 5
          refine Sx.wp_if hT rfl (fun hc27 => ?_) (fun hc27 => ?_)
          · try simp only [decide_eq_true_eq, decide_eq_false_iff_not, Bool.not_eq_true', Bool.not_eq_false', Bool.not_eq_true, Bool.not_eq_false, Bool.and_eq_true, Bool.or_eq_false_iff, beq_iff_eq, bne_iff_ne, Int.not_lt, Int.not_le, ne_eq] at hc27
            refine wp_seq_k fun K28 hK28 => ?_
            -- region 19 (law.go:120)
            refine Sx.wp_draws (fun u => Sx.Ext (Sx.No) u) [(0, .held), (1, .take), (2, .take), (3, .take), (4, .take), (5, .take), (6, .held), (7, .keep), (8, .take), (9, .take), (10, .take), (11, .take), (12, .take), (13, .take), (14, .held), (15, .run), (16, .take), (17, .take)] (by kernel_rfl) (by kernel_rfl) (fun u E _ => ?_)
            replace H := H.pure E; clear E
            have hH : Sx.Ext (Sx.No) u u := Sx.Ext.refl _ _
            have Hu := H
            refine Sx.st_held hT rfl rfl rfl rfl hH (fun w' h' => Sx.y_loadS hT rfl Try.underlying28 Try.ti28 rfl ((Hu.heldB 1 rfl h' Sx.off_No).seg (k := 3) rfl) (by rfl)) ?_
            clear hT; intro a hT
            refine Sx.st_take hT rfl rfl rfl rfl (Sx.x_move hT rfl rfl) ?_
            clear hT; intro a hT
            refine Sx.st_take hT rfl rfl rfl rfl (Sx.x_move hT rfl rfl) ?_
            clear hT; intro a hT
            refine Sx.st_take hT rfl rfl rfl rfl (Sx.x_index (k := i) hT rfl Try.underlying22 Try.ti37 (R.at H.ext).sv rfl rfl (by first | rfl | omega) (by omega)) ?_
            clear hT; intro a hT
            refine Sx.st_take hT rfl rfl rfl rfl (Sx.x_fieldAddr hT rfl Try.fa37_2 rfl) ?_
            clear hT; intro a hT
            refine Sx.st_take hT rfl rfl rfl rfl (Sx.x_fieldAddr hT rfl Try.fa35_3 rfl) ?_
            clear hT; intro a hT
            refine Sx.st_held hT rfl rfl rfl rfl hH (fun w' h' => Sx.y_loadS hT rfl Try.underlying28 Try.ti28 rfl (((R.at (Hu.ext.step h')).cs Op.len ho).seg (i := 7) (k := 3) rfl) (by rfl)) ?_
            clear hT; intro a hT
            refine Sx.st_callkeep hT rfl rfl rfl rfl rfl Try.can10 rfl (Less_calls low o.f.s _) ?_
            rintro _ w13 ⟨rfl, E⟩
            refine ⟨_, rfl, hH.step E, ?_⟩
            replace hH := hH.step E
            clear hT; intro a hT
            replace H := H.pure E; clear E
            refine Sx.st_take hT rfl rfl rfl rfl (Sx.x_move hT rfl rfl) ?_
            clear hT; intro a hT
            -- guard (19, 8)
            refine Sx.Sl.two hT 68 rfl (fun hc29 hT => ?_) (fun hc29 hT => ?_)
            · try simp only [decide_eq_true_eq, decide_eq_false_iff_not, Bool.not_eq_true', Bool.not_eq_false', Bool.not_eq_true, Bool.not_eq_false, Bool.and_eq_true, Bool.or_eq_false_iff, beq_iff_eq, bne_iff_ne, Int.not_lt, Int.not_le, ne_eq] at hc29
              have hlt9 : ltS low o.f.s := hc29
              refine Sx.st_take hT rfl rfl rfl rfl (Sx.x_move hT rfl rfl) ?_
              clear hT; intro a hT
              refine Sx.st_take hT rfl rfl rfl rfl (Sx.x_move hT rfl rfl) ?_
              clear hT; intro a hT
              refine Sx.st_take hT rfl rfl rfl rfl (Sx.x_move hT rfl rfl) ?_
              clear hT; intro a hT
              refine Sx.st_take hT rfl rfl rfl rfl (Sx.x_index (k := i) hT rfl Try.underlying22 Try.ti37 (R.at H.ext).sv rfl rfl (by first | rfl | omega) (by omega)) ?_
              clear hT; intro a hT
              refine Sx.st_take hT rfl rfl rfl rfl (Sx.x_fieldAddr hT rfl Try.fa37_2 rfl) ?_
              clear hT; intro a hT
              refine Sx.st_held hT rfl rfl rfl rfl hH (fun w' h' => Sx.y_loadS hT rfl Try.underlying35 Try.ti35 rfl (by first | exact ((Hu.heldB 0 rfl h' Sx.off_No).seg (k := 9) rfl) | exact ((Hu.heldB 1 rfl h' Sx.off_No).seg (k := 9) rfl) | exact ((Hu.heldB 2 rfl h' Sx.off_No).seg (k := 9) rfl) | exact ((Hu.heldB 6 rfl h' Sx.off_No).seg (k := 9) rfl) | exact (((R.at (Hu.ext.step h')).cs Op.len ho).seg (i := 2) (k := 9) rfl) | exact (((R.at (Hu.ext.step h')).cs Op.len ho).seg (i := 11) (k := 3) rfl) | exact (((R.at (Hu.ext.step h')).cs Op.len ho).seg (i := 7) (k := 3) rfl)) (by rfl)) ?_
              clear hT; intro a hT
              refine Sx.st_call hT rfl rfl rfl rfl rfl Try.can11 rfl (Add_calls o.f (H.pre [6, 7, 8] rfl rfl) (H.ro RMx [6, 7, 8] rfl) hon (by omega) hWI.held (by omega)) ?_
              rintro _ w14 ⟨ad9, c9, L1, rfl, K, hp1⟩
              refine ⟨_, rfl, ?_⟩
              clear hT; intro a hT
              replace H := H.back [6, 7, 8] [0, 1, 2, 3, 4, 5] rfl rfl rfl K rfl; clear K
              obtain ⟨z9, hz9⟩ : ∃ z, addE (L.map Fr.p) o.f.p = z := ⟨_, rfl⟩
              rw [hz9] at hT
              refine Sx.st_take hT rfl rfl rfl rfl ((fun w => Sx.x_eq w hT rfl rfl rfl)) ?_
              clear hT; intro a hT
              refine Sx.st_take hT rfl rfl rfl rfl (Sx.x_pick_t hT rfl rfl rfl) ?_
              clear hT; intro a hT
              replace hT := hT.keep [77, 47, 41, 9, 34, 8, 6, 7, 5, 4, 28, 3, 24, 21, 0] rfl
              clear Hu hH
              refine Sx.ser_calm ?_
              refine Sx.then_normal (hK28 _ _ ?_)
              clear hK28
              -- cond 6
              refine Sx.wp_if hT rfl (fun hc30 => ?_) (fun hc30 => ?_)
              · try simp only [decide_eq_true_eq, decide_eq_false_iff_not, Bool.not_eq_true', Bool.not_eq_false', Bool.not_eq_true, Bool.not_eq_false, Bool.and_eq_true, Bool.or_eq_false_iff, beq_iff_eq, bne_iff_ne, Int.not_lt, Int.not_le, ne_eq] at hc30
                have hz0 : addE (L.map Fr.p) o.f.p = 0 := by rw [hz9]; simpa using hc30
                -- region 20 (law.go:121)
                refine Sx.wp_text [(0, .take), (1, .take), (2, .take), (3, .take), (4, .take), (5, .run), (6, .run), (7, .run), (8, .take)] rfl ?_
                refine Sx.st_take hT rfl rfl rfl rfl (Sx.x_move hT rfl rfl) ?_
                clear hT; intro a hT
                refine Sx.st_take hT rfl rfl rfl rfl (Sx.x_move hT rfl rfl) ?_
                clear hT; intro a hT
                refine Sx.st_take hT rfl rfl rfl rfl (Sx.x_move hT rfl rfl) ?_
                clear hT; intro a hT
                refine Sx.st_take hT rfl rfl rfl rfl (Sx.x_index (k := i) hT rfl Try.underlying22 Try.ti37 (R.at H.ext).sv rfl rfl (by first | rfl | omega) (by omega)) ?_
                clear hT; intro a hT
                refine Sx.st_take hT rfl rfl rfl rfl (Sx.x_fieldAddr hT rfl Try.fa37_2 rfl) ?_
                clear hT; intro a hT
                refine Sx.st_run hT rfl rfl rfl rfl (Sx.y_loadS hT rfl Try.underlying35 Try.ti35 rfl (((R.at H.ext).cs Op.len ho).seg (i := 2) (k := 9) rfl) (by rfl)) ?_
                clear hT; intro a hT
                refine Sx.st_eff hT rfl rfl rfl rfl (Sx.y_slice1 hT rfl Try.underlying29 Try.ti35 rfl rfl rfl rfl rfl rfl _) ?_
                clear hT; rintro _ w15 ⟨b4, rfl, N⟩ a hT
                replace H := H.new N; clear N
                refine Sx.st_eff hT rfl rfl rfl rfl (Sx.x_append hT rfl rfl Try.underlying29 Try.ti35 rfl (by decide) rfl rfl (H.row 7 rfl) ((H.blk 0 rfl).sv1 rfl) (Fr.one o.f) (fun h => by cases h) (by unfold maxLen; omega) (by omega)) ?_
                rintro _ w16 ⟨ad16, c16, rfl, hr, E, hown, -⟩
                clear hT; intro a hT
                replace H := H.setR 7 rfl hr E hown rfl; clear hr E hown
                rw [snoc_fr (f := o.f), show I.length + 1 = (I ++ [o.f]).length from by simp] at H
                rw [show I.length + 1 = (I ++ [o.f]).length from by simp] at hT
                refine Sx.st_take hT rfl rfl rfl rfl (Sx.x_assign hT rfl rfl) ?_
                clear hT; intro a hT
                replace hT := hT.keep [6, 77, 47, 41, 9, 34, 8, 7, 5, 4, 28, 3, 24, 21, 0] rfl
                refine Sx.ser_nil ?_
                refine Sx.block_normal ?_
                refine Sx.block_normal ?_
                refine Sx.then_normal (hK20 _ _ ?_)
                clear hK20
                -- region 14 (law.go:113)
                refine Sx.wp_text [(0, .take), (1, .take), (2, .take)] rfl ?_
                refine Sx.st_take hT rfl rfl rfl rfl (Sx.x_move hT rfl rfl) ?_
                clear hT; intro a hT
                refine Sx.st_take hT rfl rfl rfl rfl ((fun w => Sx.x_add w hT rfl rfl rfl (Sx.wrap64 (by omega)))) ?_
                clear hT; intro a hT
                refine Sx.st_take hT rfl rfl rfl rfl (Sx.x_assign hT rfl rfl) ?_
                clear hT; intro a hT
                replace hT := hT.keep [8, 6, 77, 47, 41, 9, 34, 7, 5, 4, 28, 3, 24, 21, 0] rfl
                refine Sx.ser_nil ?_
                refine Sx.then_normal ?_
                have hWI2 : WI ((I ++ [o.f]).map Fr.p) (O.map En.p) (L1.map Fr.p) low last := by
                  rw [hp1, List.map_append]
                  exact hWI.add hlt9 hz0
                exact ⟨(i + 1, low, last, I ++ [o.f], ad16, c16, O, ado, co, L1, ad9, c9), ⟨by show i + 1 ≤ _; omega, hWI2, by show List.length (I ++ [o.f]) ≤ i + 1; rw [List.length_append, List.length_singleton]; omega, fun x hx => by rcases List.mem_append.1 hx with hx | hx; exact hIl x hx; rw [List.mem_singleton] at hx; rw [hx]; exact ⟨o, hom, rfl⟩, hmlow, fun h => by omega⟩, (hT.keep [8, 6, 7, 5, 4, 28, 3, 24, 21, 0] rfl), (H.keep [5, 6, 7, 8, 9, 1, 2, 3] rfl rfl), by show _ - (i + 1) < _ - i; omega⟩
              · try simp only [decide_eq_true_eq, decide_eq_false_iff_not, Bool.not_eq_true', Bool.not_eq_false', Bool.not_eq_true, Bool.not_eq_false, Bool.and_eq_true, Bool.or_eq_false_iff, beq_iff_eq, bne_iff_ne, Int.not_lt, Int.not_le, ne_eq] at hc30
                have hz0 : addE (L.map Fr.p) o.f.p ≠ 0 := by rw [hz9]; simpa using hc30
                refine wp_skip ?_
                refine Sx.block_normal ?_
                refine Sx.block_normal ?_
                refine Sx.then_normal (hK20 _ _ ?_)
                clear hK20
                -- region 14 (law.go:113)
                refine Sx.wp_text [(0, .take), (1, .take), (2, .take)] rfl ?_
                refine Sx.st_take hT rfl rfl rfl rfl (Sx.x_move hT rfl rfl) ?_
                clear hT; intro a hT
                refine Sx.st_take hT rfl rfl rfl rfl ((fun w => Sx.x_add w hT rfl rfl rfl (Sx.wrap64 (by omega)))) ?_
                clear hT; intro a hT
                refine Sx.st_take hT rfl rfl rfl rfl (Sx.x_assign hT rfl rfl) ?_
                clear hT; intro a hT
                replace hT := hT.keep [8, 77, 47, 41, 9, 34, 6, 7, 5, 4, 28, 3, 24, 21, 0] rfl
                refine Sx.ser_nil ?_
                refine Sx.then_normal ?_
                have hWI2 : WI (I.map Fr.p) (O.map En.p) (L1.map Fr.p) low last := by
                  rw [hp1, add_no rfl hz0]
                  exact hWI
                exact ⟨(i + 1, low, last, I, adi, ci, O, ado, co, L1, ad9, c9), ⟨by show i + 1 ≤ _; omega, hWI2, by show I.length ≤ i + 1; omega, hIl, hmlow, fun h => by omega⟩, (hT.keep [8, 6, 7, 5, 4, 28, 3, 24, 21, 0] rfl), (H.keep [4, 5, 6, 7, 8, 0, 1, 2] rfl rfl), by show _ - (i + 1) < _ - i; omega⟩
            · try simp only [decide_eq_true_eq, decide_eq_false_iff_not, Bool.not_eq_true', Bool.not_eq_false', Bool.not_eq_true, Bool.not_eq_false, Bool.and_eq_true, Bool.or_eq_false_iff, beq_iff_eq, bne_iff_ne, Int.not_lt, Int.not_le, ne_eq] at hc29
              refine Sx.st_skip hT rfl rfl rfl rfl ?_
              clear hT; intro a hT
              refine Sx.st_skip hT rfl rfl rfl rfl ?_
              clear hT; intro a hT
              refine Sx.st_skip hT rfl rfl rfl rfl ?_
              clear hT; intro a hT
              refine Sx.st_skip hT rfl rfl rfl rfl ?_
              clear hT; intro a hT
              refine Sx.st_skip hT rfl rfl rfl rfl ?_
              clear hT; intro a hT
              refine Sx.st_heldskip hT rfl rfl rfl rfl hH ?_
              clear hT; intro a hT
              refine Sx.st_runskip hT rfl rfl rfl rfl ?_
              clear hT; intro a hT
              refine Sx.st_skip hT rfl rfl rfl rfl ?_
              clear hT; intro a hT
              refine Sx.st_take hT rfl rfl rfl rfl (Sx.x_pick_f hT rfl rfl rfl) ?_
              clear hT; intro a hT
              replace hT := hT.keep [77, 47, 41, 9, 34, 8, 6, 7, 5, 4, 28, 3, 24, 21, 0] rfl
              clear Hu hH
              refine Sx.ser_calm ?_
              refine Sx.then_normal (hK28 _ _ ?_)
              clear hK28
              refine Sx.wp_if hT rfl (fun h => by cases h) (fun _ => ?_)
              skip
              refine wp_skip ?_
              refine Sx.block_normal ?_
              refine Sx.block_normal ?_
              refine Sx.then_normal (hK20 _ _ ?_)
              clear hK20
              -- region 14 (law.go:113)
              refine Sx.wp_text [(0, .take), (1, .take), (2, .take)] rfl ?_
              refine Sx.st_take hT rfl rfl rfl rfl (Sx.x_move hT rfl rfl) ?_
              clear hT; intro a hT
              refine Sx.st_take hT rfl rfl rfl rfl ((fun w => Sx.x_add w hT rfl rfl rfl (Sx.wrap64 (by omega)))) ?_
              clear hT; intro a hT
              refine Sx.st_take hT rfl rfl rfl rfl (Sx.x_assign hT rfl rfl) ?_
              clear hT; intro a hT
              replace hT := hT.keep [8, 77, 47, 41, 9, 34, 6, 7, 5, 4, 28, 3, 24, 21, 0] rfl
              refine Sx.ser_nil ?_
              refine Sx.then_normal ?_
              skip
              exact ⟨(i + 1, low, last, I, adi, ci, O, ado, co, L, ad1, c1), ⟨by show i + 1 ≤ _; omega, hWI, by show I.length ≤ i + 1; omega, hIl, hmlow, fun h => by omega⟩, (hT.keep [8, 6, 7, 5, 4, 28, 3, 24, 21, 0] rfl), (H.keep [1, 2, 3, 4, 5, 6, 7, 8] rfl rfl), by show _ - (i + 1) < _ - i; omega⟩
          · try simp only [decide_eq_true_eq, decide_eq_false_iff_not, Bool.not_eq_true', Bool.not_eq_false', Bool.not_eq_true, Bool.not_eq_false, Bool.and_eq_true, Bool.or_eq_false_iff, beq_iff_eq, bne_iff_ne, Int.not_lt, Int.not_le, ne_eq] at hc27
            refine wp_seq_k fun K31 hK31 => ?_
            -- region 21 (law.go:123)
            refine Sx.wp_text [(0, .take), (1, .take), (2, .take), (3, .take), (4, .take), (5, .take), (6, .take), (7, .take), (8, .take), (9, .run), (10, .take), (11, .take), (12, .run), (13, .run), (14, .take), (15, .take), (16, .run), (17, .run), (18, .run), (19, .take), (20, .take), (21, .take), (22, .take)] rfl ?_
            refine Sx.st_take hT rfl rfl rfl rfl (Sx.x_move hT rfl rfl) ?_
            clear hT; intro a hT
            refine Sx.st_take hT rfl rfl rfl rfl (Sx.x_move hT rfl rfl) ?_
            clear hT; intro a hT
            refine Sx.st_take hT rfl rfl rfl rfl (Sx.x_len_slice hT rfl rfl Try.underlying22 rfl) ?_
            clear hT; intro a hT
            refine Sx.st_take hT rfl rfl rfl rfl ((fun w => Sx.x_eq w hT rfl rfl rfl)) ?_
            clear hT; intro a hT
            refine Sx.st_take hT rfl rfl rfl rfl (Sx.x_move hT rfl rfl) ?_
            clear hT; intro a hT
            -- guard (21, 4)
            refine Sx.Sl.two hT 91 rfl (fun hc32 hT => ?_) (fun hc32 hT => ?_)
            · exfalso
              try simp only [decide_eq_true_eq, decide_eq_false_iff_not, Bool.not_eq_true', Bool.not_eq_false', Bool.not_eq_true, Bool.not_eq_false, Bool.and_eq_true, Bool.or_eq_false_iff, beq_iff_eq, bne_iff_ne, Int.not_lt, Int.not_le, ne_eq] at hc32
              omega
            · try simp only [decide_eq_true_eq, decide_eq_false_iff_not, Bool.not_eq_true', Bool.not_eq_false', Bool.not_eq_true, Bool.not_eq_false, Bool.and_eq_true, Bool.or_eq_false_iff, beq_iff_eq, bne_iff_ne, Int.not_lt, Int.not_le, ne_eq] at hc32
              refine Sx.st_take hT rfl rfl rfl rfl (Sx.x_move hT rfl rfl) ?_
              clear hT; intro a hT
              refine Sx.st_take hT rfl rfl rfl rfl (Sx.x_move hT rfl rfl) ?_
              clear hT; intro a hT
              refine Sx.st_take hT rfl rfl rfl rfl (Sx.x_index (k := i) hT rfl Try.underlying22 Try.ti37 (R.at H.ext).sv rfl rfl (by first | rfl | omega) (by omega)) ?_
              clear hT; intro a hT
              refine Sx.st_take hT rfl rfl rfl rfl (Sx.x_fieldAddr hT rfl Try.fa37_0 rfl) ?_
              clear hT; intro a hT
              refine Sx.st_run hT rfl rfl rfl rfl (Sx.x_load1 hT rfl Try.fl3 rfl (by first | exact ((H.blk 0 rfl).nth rfl) | exact ((H.blk 1 rfl).nth rfl) | exact ((H.blk 2 rfl).nth rfl) | exact ((H.blk 6 rfl).nth rfl) | exact ((R.at H.ext).cell (j := 0) Op.len ho rfl))) ?_
              clear hT; intro a hT
              refine Sx.st_take hT rfl rfl rfl rfl ((fun w => Sx.x_eq w hT rfl rfl rfl)) ?_
              clear hT; intro a hT
              refine Sx.st_take hT rfl rfl rfl rfl (Sx.x_move hT rfl rfl) ?_
              clear hT; intro a hT
              -- guard (21, 11)
              refine Sx.Sl.two hT 98 rfl (fun hc33 hT => ?_) (fun hc33 hT => ?_)
              · try simp only [decide_eq_true_eq, decide_eq_false_iff_not, Bool.not_eq_true', Bool.not_eq_false', Bool.not_eq_true, Bool.not_eq_false, Bool.and_eq_true, Bool.or_eq_false_iff, beq_iff_eq, bne_iff_ne, Int.not_lt, Int.not_le, ne_eq] at hc33
                refine Sx.st_run hT rfl rfl rfl rfl (Sx.y_loadS hT rfl Try.underlying28 Try.ti28 rfl ((H.blk 0 rfl).seg (k := 3) rfl) (by rfl)) ?_
                clear hT; intro a hT
                refine Sx.st_call hT rfl rfl rfl rfl rfl Try.can12 rfl (xMayS_calls o.s _) ?_
                rintro _ w17 ⟨rfl, E⟩
                refine ⟨_, rfl, ?_⟩
                clear hT; intro a hT
                replace H := H.pure E; clear E
                refine Sx.st_take hT rfl rfl rfl rfl (Sx.x_pick_t hT rfl rfl rfl) ?_
                clear hT; intro a hT
                refine Sx.st_take hT rfl rfl rfl rfl (Sx.x_move hT rfl rfl) ?_
                clear hT; intro a hT
                -- guard (21, 15)
                refine Sx.Sl.two hT 102 rfl (fun hc34 hT => ?_) (fun hc34 hT => ?_)
                · try simp only [decide_eq_true_eq, decide_eq_false_iff_not, Bool.not_eq_true', Bool.not_eq_false', Bool.not_eq_true, Bool.not_eq_false, Bool.and_eq_true, Bool.or_eq_false_iff, beq_iff_eq, bne_iff_ne, Int.not_lt, Int.not_le, ne_eq] at hc34
                  have hmat : mayS o.s = true := by simpa using hc34
                  refine Sx.st_run hT rfl rfl rfl rfl (Sx.y_loadS hT rfl Try.underlying28 Try.ti28 rfl ((H.blk 0 rfl).seg (k := 3) rfl) (by rfl)) ?_
                  clear hT; intro a hT
                  refine Sx.st_run hT rfl rfl rfl rfl (Sx.y_loadS hT rfl Try.underlying28 Try.ti28 rfl ((H.blk 1 rfl).seg (k := 3) rfl) (by rfl)) ?_
                  clear hT; intro a hT
                  refine Sx.st_call hT rfl rfl rfl rfl rfl Try.can10 rfl (Less_calls o.s low _) ?_
                  rintro _ w18 ⟨rfl, E⟩
                  refine ⟨_, rfl, ?_⟩
                  clear hT; intro a hT
                  replace H := H.pure E; clear E
                  refine Sx.st_take hT rfl rfl rfl rfl (Sx.x_not hT rfl rfl) ?_
                  clear hT; intro a hT
                  refine Sx.st_take hT rfl rfl rfl rfl (Sx.x_pick_t hT rfl rfl rfl) ?_
                  clear hT; intro a hT
                  refine Sx.st_take hT rfl rfl rfl rfl (Sx.x_pick_f hT rfl rfl rfl) ?_
                  clear hT; intro a hT
                  refine Sx.st_take hT rfl rfl rfl rfl (Sx.x_assign hT rfl rfl) ?_
                  clear hT; intro a hT
                  replace hT := hT.keep [86, 47, 41, 9, 34, 8, 6, 7, 5, 4, 28, 3, 24, 21, 0] rfl
                  refine Sx.ser_nil ?_
                  refine Sx.then_normal (hK31 _ _ ?_)
                  clear hK31
                  -- cond 7
                  refine Sx.wp_if hT rfl (fun hc35 => ?_) (fun hc35 => ?_)
                  · try simp only [decide_eq_true_eq, decide_eq_false_iff_not, Bool.not_eq_true', Bool.not_eq_false', Bool.not_eq_true, Bool.not_eq_false, Bool.and_eq_true, Bool.or_eq_false_iff, beq_iff_eq, bne_iff_ne, Int.not_lt, Int.not_le, ne_eq] at hc35
                    have hat9 : ¬ ltS o.s low := by simpa using hc35
                    refine wp_seq_k fun K36 hK36 => ?_
                    -- region 22 (law.go:124)
                    refine Sx.wp_text [(0, .run), (1, .run)] rfl ?_
                    refine Sx.st_run hT rfl rfl rfl rfl (Sx.y_loadS hT rfl Try.underlying28 Try.ti28 rfl ((H.blk 0 rfl).seg (k := 3) rfl) (by rfl)) ?_
                    clear hT; intro a hT
                    refine Sx.st_act hT rfl rfl rfl (Sx.y_storeS hT rfl Try.ti28 rfl rfl rfl rfl rfl (H.blk 1 rfl) rfl) ?_
                    rintro w19 ⟨hb, E, _⟩
                    replace H := H.setB 1 rfl hb E rfl; clear hb E
                    replace hT := hT.keep [86, 47, 41, 9, 34, 8, 6, 7, 5, 4, 28, 3, 24, 21, 0] rfl
                    refine Sx.ser_nil ?_
                    refine Sx.then_normal (hK36 _ _ ?_)
                    clear hK36
                    refine wp_seq_k fun K37 hK37 => ?_
                    -- region 23 (law.go:125)
                    refine Sx.wp_text [(0, .take), (1, .run), (2, .run), (3, .take)] rfl ?_
                    refine Sx.st_take hT rfl rfl rfl rfl (Sx.x_move hT rfl rfl) ?_
                    clear hT; intro a hT
                    refine Sx.st_run hT rfl rfl rfl rfl (Sx.y_loadS hT rfl Try.underlying28 Try.ti28 rfl ((H.blk 0 rfl).seg (k := 3) rfl) (by rfl)) ?_
                    clear hT; intro a hT
                    refine Sx.st_call hT rfl rfl rfl rfl rfl Try.can13 rfl (Upto_calls o.s (H.pre [6, 7, 8] rfl rfl) hWI.held (by omega)) ?_
                    rintro _ w20 ⟨ad9, c9, E9, ade, ce, L1, rfl, K, hE9, hp1⟩
                    refine ⟨_, rfl, ?_⟩
                    clear hT; intro a hT
                    replace H := H.back [6, 7, 8] [0, 1, 2, 3, 4, 5] rfl rfl rfl K rfl; clear K
                    obtain ⟨hr1, hr2, hr3⟩ := hWI.rise hat9
                    have hbn := (upx hWI.held o.s).len
                    have hbn2 := cntS_le o.s (L.map Fr.p)
                    rw [List.length_map] at hbn2
                    have hE9n : E9.length ≤ L.length := by rw [show E9.length = (E9.map En.p).length from by rw [List.length_map], hE9]; omega
                    refine Sx.st_take hT rfl rfl rfl rfl (Sx.x_assign hT rfl rfl) ?_
                    clear hT; intro a hT
                    replace hT := hT.keep [10, 86, 47, 41, 9, 34, 8, 6, 7, 5, 4, 28, 3, 24, 21, 0] rfl
                    refine Sx.ser_nil ?_
                    refine Sx.then_normal (hK37 _ _ ?_)
                    clear hK37
                    refine wp_seq_k fun K38 hK38 => ?_
                    refine wp_seq_k fun K39 hK39 => ?_
                    -- region 24 (law.go:126)
                    refine Sx.wp_text [(0, .take)] rfl ?_
                    refine Sx.st_take hT rfl rfl rfl rfl (Sx.x_assign hT rfl rfl) ?_
                    clear hT; intro a hT
                    replace hT := hT.keep [11, 10, 86, 47, 41, 9, 34, 8, 6, 7, 5, 4, 28, 3, 24, 21, 0] rfl
                    refine Sx.ser_nil ?_
                    refine Sx.then_normal (hK39 _ _ ?_)
                    clear hK39
                    refine wp_block ?_
                    -- loop 1
                    refine Sx.wp_loopH (G := Nat × Stp) (fun ⟨k, last1⟩ => [(11, .int .i64 (k : Int))]) (fun ⟨k, last1⟩ => [cB b2 [.int .i64 last1.w, .int .i64 last1.l, .int .i64 last1.n] 28]) (fun ⟨k, last1⟩ => k ≤ E9.length ∧ last1 = lastE last ((uptoE (L.map Fr.p) o.s).take k)) (fun ⟨k, last1⟩ => E9.length - k) (0, last) (hT.keep [11, 10, 86, 47, 41, 9, 34, 8, 6, 7, 5, 4, 28, 3, 24, 21, 0] rfl) (H.keep [7, 0, 1, 2, 3, 4, 5, 6, 8, 9, 10] rfl rfl) (⟨Nat.zero_le _, (by rw [List.take_zero]; rfl)⟩) ?_
                    clear hT H
                    rintro ⟨k, last1⟩ a w21 hJ hT H
                    replace hT := hT.keep [11, 10, 86, 47, 41, 9, 34, 8, 6, 7, 5, 4, 28, 3, 24, 21, 0] rfl
                    replace H := H.keep [0, 1, 2, 3, 4, 5, 6, 7, 8, 9, 10] rfl rfl
                    obtain ⟨hk, hlast1⟩ := hJ
                    refine wp_seq_k fun K40 hK40 => ?_
                    refine wp_seq_k fun K41 hK41 => ?_
                    -- region 25 (law.go:126)
                    refine Sx.wp_text [(0, .take), (1, .take), (2, .take), (3, .take)] rfl ?_
                    refine Sx.st_take hT rfl rfl rfl rfl (Sx.x_move hT rfl rfl) ?_
                    clear hT; intro a hT
                    refine Sx.st_take hT rfl rfl rfl rfl (Sx.x_move hT rfl rfl) ?_
                    clear hT; intro a hT
                    refine Sx.st_take hT rfl rfl rfl rfl (Sx.x_len_slice hT rfl rfl Try.underlying30 rfl) ?_
                    clear hT; intro a hT
                    refine Sx.st_take hT rfl rfl rfl rfl ((fun w => Sx.x_lt w hT rfl rfl rfl)) ?_
                    clear hT; intro a hT
                    replace hT := hT.keep [116, 11, 10, 86, 47, 41, 9, 34, 8, 6, 7, 5, 4, 28, 3, 24, 21, 0] rfl
                    refine Sx.ser_nil ?_
                    refine Sx.then_normal (hK41 _ _ ?_)
                    clear hK41
                    -- cond 8
                    refine Sx.wp_if hT rfl (fun hc42 => ?_) (fun hc42 => ?_)
                    · try simp only [decide_eq_true_eq, decide_eq_false_iff_not, Bool.not_eq_true', Bool.not_eq_false', Bool.not_eq_true, Bool.not_eq_false, Bool.and_eq_true, Bool.or_eq_false_iff, beq_iff_eq, bne_iff_ne, Int.not_lt, Int.not_le, ne_eq] at hc42
                      obtain ⟨e, he⟩ : ∃ o, E9[k]? = some o := ⟨_, List.getElem?_eq_getElem (by omega)⟩
                      have hep : (uptoE (L.map Fr.p) o.s)[k]? = some e.p := by rw [← hE9, List.getElem?_map, he]; rfl
                      have hlt8 : ltS last1 e.s := by rw [hlast1]; exact lastE_lt hr1 hr2 hep
                      have hnl8 : ¬ ltS o.s e.s := hr3 e.p (List.mem_of_getElem? hep)
                      refine wp_skip ?_
                      refine Sx.then_normal (hK40 _ _ ?_)
                      clear hK40
                      refine wp_seq_k fun K43 hK43 => ?_
                      refine wp_block ?_
                      refine wp_seq_k fun K44 hK44 => ?_
                      refine wp_seq_k fun K45 hK45 => ?_
                      -- region 27 (law.go:127)
                      refine Sx.wp_draws (fun u => Sx.Ext (Sx.No) u) [(0, .held), (1, .take), (2, .take), (3, .take), (4, .take), (5, .held), (6, .keep), (7, .take), (8, .take), (9, .held), (10, .take), (11, .take), (12, .take), (13, .take), (14, .held), (15, .run), (16, .take)] (by kernel_rfl) (by kernel_rfl) (fun u E _ => ?_)
                      replace H := H.pure E; clear E
                      have hH : Sx.Ext (Sx.No) u u := Sx.Ext.refl _ _
                      have Hu := H
                      refine Sx.st_held hT rfl rfl rfl rfl hH (fun w' h' => Sx.y_loadS hT rfl Try.underlying28 Try.ti28 rfl ((Hu.heldB 0 rfl h' Sx.off_No).seg (k := 3) rfl) (by rfl)) ?_
                      clear hT; intro a hT
                      refine Sx.st_take hT rfl rfl rfl rfl (Sx.x_move hT rfl rfl) ?_
                      clear hT; intro a hT
                      refine Sx.st_take hT rfl rfl rfl rfl (Sx.x_move hT rfl rfl) ?_
                      clear hT; intro a hT
                      refine Sx.st_take hT rfl rfl rfl rfl (Sx.x_index (k := k) hT rfl Try.underlying30 Try.ti44 (H.row 4 rfl).sv rfl rfl (by first | rfl | omega) (by omega)) ?_
                      clear hT; intro a hT
                      refine Sx.st_take hT rfl rfl rfl rfl (Sx.x_fieldAddr hT rfl Try.fa44_1 rfl) ?_
                      clear hT; intro a hT
                      refine Sx.st_held hT rfl rfl rfl rfl hH (fun w' h' => Sx.y_loadS hT rfl Try.underlying28 Try.ti28 rfl (((((Hu.heldR 4 rfl h' Sx.off_No).ssn rfl).cs En.len he).seg (i := 3) (k := 3) rfl)) (by rfl)) ?_
                      clear hT; intro a hT
                      refine Sx.st_callkeep hT rfl rfl rfl rfl rfl Try.can10 rfl (Less_calls last1 e.s _) ?_
                      rintro _ w22 ⟨rfl, E⟩
                      refine ⟨_, rfl, hH.step E, ?_⟩
                      replace hH := hH.step E
                      clear hT; intro a hT
                      replace H := H.pure E; clear E
                      refine Sx.st_take hT rfl rfl rfl rfl (Sx.x_not hT rfl rfl) ?_
                      clear hT; intro a hT
                      refine Sx.st_take hT rfl rfl rfl rfl (Sx.x_move hT rfl rfl) ?_
                      clear hT; intro a hT
                      -- guard (27, 8)
                      refine Sx.Sl.two hT 127 rfl (fun hc46 hT => ?_) (fun hc46 hT => ?_)
                      · exfalso
                        try simp only [decide_eq_true_eq, decide_eq_false_iff_not, Bool.not_eq_true', Bool.not_eq_false', Bool.not_eq_true, Bool.not_eq_false, Bool.and_eq_true, Bool.or_eq_false_iff, beq_iff_eq, bne_iff_ne, Int.not_lt, Int.not_le, ne_eq] at hc46
                        exact hc46 hlt8
                      · try simp only [decide_eq_true_eq, decide_eq_false_iff_not, Bool.not_eq_true', Bool.not_eq_false', Bool.not_eq_true, Bool.not_eq_false, Bool.and_eq_true, Bool.or_eq_false_iff, beq_iff_eq, bne_iff_ne, Int.not_lt, Int.not_le, ne_eq] at hc46
                        refine Sx.st_held hT rfl rfl rfl rfl hH (fun w' h' => Sx.y_loadS hT rfl Try.underlying28 Try.ti28 rfl ((Hu.heldB 6 rfl h' Sx.off_No).seg (k := 3) rfl) (by rfl)) ?_
                        clear hT; intro a hT
                        refine Sx.st_take hT rfl rfl rfl rfl (Sx.x_move hT rfl rfl) ?_
                        clear hT; intro a hT
                        refine Sx.st_take hT rfl rfl rfl rfl (Sx.x_move hT rfl rfl) ?_
                        clear hT; intro a hT
                        refine Sx.st_take hT rfl rfl rfl rfl (Sx.x_index (k := k) hT rfl Try.underlying30 Try.ti44 (H.row 4 rfl).sv rfl rfl (by first | rfl | omega) (by omega)) ?_
                        clear hT; intro a hT
                        refine Sx.st_take hT rfl rfl rfl rfl (Sx.x_fieldAddr hT rfl Try.fa44_1 rfl) ?_
                        clear hT; intro a hT
                        refine Sx.st_held hT rfl rfl rfl rfl hH (fun w' h' => Sx.y_loadS hT rfl Try.underlying28 Try.ti28 rfl (((((Hu.heldR 4 rfl h' Sx.off_No).ssn rfl).cs En.len he).seg (i := 3) (k := 3) rfl)) (by rfl)) ?_
                        clear hT; intro a hT
                        refine Sx.st_call hT rfl rfl rfl rfl rfl Try.can10 rfl (Less_calls o.s e.s _) ?_
                        rintro _ w23 ⟨rfl, E⟩
                        refine ⟨_, rfl, ?_⟩
                        clear hT; intro a hT
                        replace H := H.pure E; clear E
                        refine Sx.st_take hT rfl rfl rfl rfl (Sx.x_pick_f hT rfl rfl rfl) ?_
                        clear hT; intro a hT
                        replace hT := hT.keep [135, 116, 11, 10, 86, 47, 41, 9, 34, 8, 6, 7, 5, 4, 28, 3, 24, 21, 0] rfl
                        clear Hu hH
                        refine Sx.ser_calm ?_
                        refine Sx.then_normal (hK45 _ _ ?_)
                        clear hK45
                        -- cond 9
                        refine Sx.wp_if hT rfl (fun hc47 => ?_) (fun hc47 => ?_)
                        · exfalso
                          try simp only [decide_eq_true_eq, decide_eq_false_iff_not, Bool.not_eq_true', Bool.not_eq_false', Bool.not_eq_true, Bool.not_eq_false, Bool.and_eq_true, Bool.or_eq_false_iff, beq_iff_eq, bne_iff_ne, Int.not_lt, Int.not_le, ne_eq] at hc47
                          first | (rw [decide_eq_false hnl8] at hc47; simp at hc47; done) | exact hnl8 hc47
                        · try simp only [decide_eq_true_eq, decide_eq_false_iff_not, Bool.not_eq_true', Bool.not_eq_false', Bool.not_eq_true, Bool.not_eq_false, Bool.and_eq_true, Bool.or_eq_false_iff, beq_iff_eq, bne_iff_ne, Int.not_lt, Int.not_le, ne_eq] at hc47
                          refine wp_skip ?_
                          refine Sx.then_normal (hK44 _ _ ?_)
                          clear hK44
                          -- region 29 (law.go:130)
                          refine Sx.wp_text [(0, .take), (1, .take), (2, .take), (3, .take), (4, .run), (5, .run)] rfl ?_
                          refine Sx.st_take hT rfl rfl rfl rfl (Sx.x_move hT rfl rfl) ?_
                          clear hT; intro a hT
                          refine Sx.st_take hT rfl rfl rfl rfl (Sx.x_move hT rfl rfl) ?_
                          clear hT; intro a hT
                          refine Sx.st_take hT rfl rfl rfl rfl (Sx.x_index (k := k) hT rfl Try.underlying30 Try.ti44 (H.row 4 rfl).sv rfl rfl (by first | rfl | omega) (by omega)) ?_
                          clear hT; intro a hT
                          refine Sx.st_take hT rfl rfl rfl rfl (Sx.x_fieldAddr hT rfl Try.fa44_1 rfl) ?_
                          clear hT; intro a hT
                          refine Sx.st_run hT rfl rfl rfl rfl (Sx.y_loadS hT rfl Try.underlying28 Try.ti28 rfl (((((H.row 4 rfl).ssn rfl).cs En.len he).seg (i := 3) (k := 3) rfl)) (by rfl)) ?_
                          clear hT; intro a hT
                          refine Sx.st_act hT rfl rfl rfl (Sx.y_storeS hT rfl Try.ti28 rfl rfl rfl rfl rfl (H.blk 0 rfl) rfl) ?_
                          rintro w24 ⟨hb, E, _⟩
                          replace H := H.setB 0 rfl hb E rfl; clear hb E
                          replace hT := hT.keep [135, 116, 11, 10, 86, 47, 41, 9, 34, 8, 6, 7, 5, 4, 28, 3, 24, 21, 0] rfl
                          refine Sx.ser_nil ?_
                          refine Sx.block_normal ?_
                          refine Sx.then_normal (hK43 _ _ ?_)
                          clear hK43
                          -- region 26 (law.go:126)
                          refine Sx.wp_text [(0, .take), (1, .take), (2, .take)] rfl ?_
                          refine Sx.st_take hT rfl rfl rfl rfl (Sx.x_move hT rfl rfl) ?_
                          clear hT; intro a hT
                          refine Sx.st_take hT rfl rfl rfl rfl ((fun w => Sx.x_add w hT rfl rfl rfl (Sx.wrap64 (by omega)))) ?_
                          clear hT; intro a hT
                          refine Sx.st_take hT rfl rfl rfl rfl (Sx.x_assign hT rfl rfl) ?_
                          clear hT; intro a hT
                          replace hT := hT.keep [11, 135, 116, 10, 86, 47, 41, 9, 34, 8, 6, 7, 5, 4, 28, 3, 24, 21, 0] rfl
                          refine Sx.ser_nil ?_
                          refine Sx.then_normal ?_
                          exact ⟨(k + 1, e.s), ⟨by show k + 1 ≤ _; omega, (lastE_snoc hep).symm⟩, (hT.keep [11, 10, 86, 47, 41, 9, 34, 8, 6, 7, 5, 4, 28, 3, 24, 21, 0] rfl), (H.keep [0, 1, 2, 3, 4, 5, 6, 7, 8, 9, 10] rfl rfl), by show _ - (k + 1) < _ - k; omega⟩
                    · try simp only [decide_eq_true_eq, decide_eq_false_iff_not, Bool.not_eq_true', Bool.not_eq_false', Bool.not_eq_true, Bool.not_eq_false, Bool.and_eq_true, Bool.or_eq_false_iff, beq_iff_eq, bne_iff_ne, Int.not_lt, Int.not_le, ne_eq] at hc42
                      have hkE : k = E9.length := by omega
                      rw [hkE, show E9.length = (uptoE (L.map Fr.p) o.s).length from by rw [← hE9, List.length_map], List.take_length] at hlast1
                      refine wp_exit ?_
                      refine Sx.then_exit ?_
                      refine Sx.then_exit ?_
                      refine Sx.block_exit ?_
                      refine Sx.then_normal (hK38 _ _ ?_)
                      clear hK38
                      -- region 30 (law.go:132)
                      refine Sx.wp_text [(0, .take), (1, .take), (2, .run), (3, .take)] rfl ?_
                      refine Sx.st_take hT rfl rfl rfl rfl (Sx.x_move hT rfl rfl) ?_
                      clear hT; intro a hT
                      refine Sx.st_take hT rfl rfl rfl rfl (Sx.x_move hT rfl rfl) ?_
                      clear hT; intro a hT
                      refine Sx.st_eff hT rfl rfl rfl rfl (Sx.x_append hT rfl rfl Try.underlying30 Try.ti44 rfl (by decide) rfl rfl (H.row 9 rfl) (H.row 4 rfl).sv (fun u hu => flat_one En.one _ u hu) (rownil (H.row 4 rfl)) (by unfold maxLen; omega) (by omega)) ?_
                      rintro _ w25 ⟨ad25, c25, rfl, hr, E, hown, -⟩
                      clear hT; intro a hT
                      replace H := H.setR 9 rfl hr E hown rfl; clear hr E hown
                      rw [cat_en, show O.length + E9.length = (O ++ E9).length from List.length_append.symm] at H
                      rw [show O.length + E9.length = (O ++ E9).length from List.length_append.symm] at hT
                      replace H := H.famCat 10 5 rfl rfl rfl [0, 1, 2, 3, 4, 6, 7, 8, 9] rfl rfl
                      refine Sx.st_take hT rfl rfl rfl rfl (Sx.x_assign hT rfl rfl) ?_
                      clear hT; intro a hT
                      replace hT := hT.keep [7, 116, 11, 10, 86, 47, 41, 9, 34, 8, 6, 5, 4, 28, 3, 24, 21, 0] rfl
                      refine Sx.ser_nil ?_
                      refine Sx.block_normal ?_
                      refine Sx.block_normal ?_
                      refine Sx.then_normal (hK20 _ _ ?_)
                      clear hK20
                      -- region 14 (law.go:113)
                      refine Sx.wp_text [(0, .take), (1, .take), (2, .take)] rfl ?_
                      refine Sx.st_take hT rfl rfl rfl rfl (Sx.x_move hT rfl rfl) ?_
                      clear hT; intro a hT
                      refine Sx.st_take hT rfl rfl rfl rfl ((fun w => Sx.x_add w hT rfl rfl rfl (Sx.wrap64 (by omega)))) ?_
                      clear hT; intro a hT
                      refine Sx.st_take hT rfl rfl rfl rfl (Sx.x_assign hT rfl rfl) ?_
                      clear hT; intro a hT
                      replace hT := hT.keep [8, 7, 116, 11, 10, 86, 47, 41, 9, 34, 6, 5, 4, 28, 3, 24, 21, 0] rfl
                      refine Sx.ser_nil ?_
                      refine Sx.then_normal ?_
                      have hWI2 : WI (I.map Fr.p) ((O ++ E9).map En.p) (L1.map Fr.p) o.s last1 := by
                        rw [hp1, List.map_append, hE9, hlast1]
                        exact hWI.upto hat9
                      exact ⟨(i + 1, o.s, last1, I, adi, ci, O ++ E9, ad25, c25, L1, ad9, c9), ⟨by show i + 1 ≤ _; omega, hWI2, by show I.length ≤ i + 1; omega, hIl, hmat, fun h => by omega⟩, (hT.keep [8, 6, 7, 5, 4, 28, 3, 24, 21, 0] rfl), (H.keep [7, 1, 8, 9, 0, 2, 3, 4] rfl rfl), by show _ - (i + 1) < _ - i; omega⟩
                  · try simp only [decide_eq_true_eq, decide_eq_false_iff_not, Bool.not_eq_true', Bool.not_eq_false', Bool.not_eq_true, Bool.not_eq_false, Bool.and_eq_true, Bool.or_eq_false_iff, beq_iff_eq, bne_iff_ne, Int.not_lt, Int.not_le, ne_eq] at hc35
                    refine wp_skip ?_
                    refine Sx.block_normal ?_
                    refine Sx.block_normal ?_
                    refine Sx.then_normal (hK20 _ _ ?_)
                    clear hK20
                    -- region 14 (law.go:113)
                    refine Sx.wp_text [(0, .take), (1, .take), (2, .take)] rfl ?_
                    refine Sx.st_take hT rfl rfl rfl rfl (Sx.x_move hT rfl rfl) ?_
                    clear hT; intro a hT
                    refine Sx.st_take hT rfl rfl rfl rfl ((fun w => Sx.x_add w hT rfl rfl rfl (Sx.wrap64 (by omega)))) ?_
                    clear hT; intro a hT
                    refine Sx.st_take hT rfl rfl rfl rfl (Sx.x_assign hT rfl rfl) ?_
                    clear hT; intro a hT
                    replace hT := hT.keep [8, 86, 47, 41, 9, 34, 6, 7, 5, 4, 28, 3, 24, 21, 0] rfl
                    refine Sx.ser_nil ?_
                    refine Sx.then_normal ?_
                    skip
                    exact ⟨(i + 1, low, last, I, adi, ci, O, ado, co, L, ad1, c1), ⟨by show i + 1 ≤ _; omega, hWI, by show I.length ≤ i + 1; omega, hIl, hmlow, fun h => by omega⟩, (hT.keep [8, 6, 7, 5, 4, 28, 3, 24, 21, 0] rfl), (H.keep [1, 2, 3, 4, 5, 6, 7, 8] rfl rfl), by show _ - (i + 1) < _ - i; omega⟩
                · try simp only [decide_eq_true_eq, decide_eq_false_iff_not, Bool.not_eq_true', Bool.not_eq_false', Bool.not_eq_true, Bool.not_eq_false, Bool.and_eq_true, Bool.or_eq_false_iff, beq_iff_eq, bne_iff_ne, Int.not_lt, Int.not_le, ne_eq] at hc34
                  refine Sx.st_runskip hT rfl rfl rfl rfl ?_
                  clear hT; intro a hT
                  refine Sx.st_runskip hT rfl rfl rfl rfl ?_
                  clear hT; intro a hT
                  refine Sx.st_runskip hT rfl rfl rfl rfl ?_
                  clear hT; intro a hT
                  refine Sx.st_skip hT rfl rfl rfl rfl ?_
                  clear hT; intro a hT
                  refine Sx.st_take hT rfl rfl rfl rfl (Sx.x_pick_f hT rfl rfl rfl) ?_
                  clear hT; intro a hT
                  refine Sx.st_take hT rfl rfl rfl rfl (Sx.x_pick_f hT rfl rfl rfl) ?_
                  clear hT; intro a hT
                  refine Sx.st_take hT rfl rfl rfl rfl (Sx.x_assign hT rfl rfl) ?_
                  clear hT; intro a hT
                  replace hT := hT.keep [86, 47, 41, 9, 34, 8, 6, 7, 5, 4, 28, 3, 24, 21, 0] rfl
                  refine Sx.ser_nil ?_
                  refine Sx.then_normal (hK31 _ _ ?_)
                  clear hK31
                  refine Sx.wp_if hT rfl (fun h => by cases h) (fun _ => ?_)
                  refine wp_skip ?_
                  refine Sx.block_normal ?_
                  refine Sx.block_normal ?_
                  refine Sx.then_normal (hK20 _ _ ?_)
                  clear hK20
                  -- region 14 (law.go:113)
                  refine Sx.wp_text [(0, .take), (1, .take), (2, .take)] rfl ?_
                  refine Sx.st_take hT rfl rfl rfl rfl (Sx.x_move hT rfl rfl) ?_
                  clear hT; intro a hT
                  refine Sx.st_take hT rfl rfl rfl rfl ((fun w => Sx.x_add w hT rfl rfl rfl (Sx.wrap64 (by omega)))) ?_
                  clear hT; intro a hT
                  refine Sx.st_take hT rfl rfl rfl rfl (Sx.x_assign hT rfl rfl) ?_
                  clear hT; intro a hT
                  replace hT := hT.keep [8, 86, 47, 41, 9, 34, 6, 7, 5, 4, 28, 3, 24, 21, 0] rfl
                  refine Sx.ser_nil ?_
                  refine Sx.then_normal ?_
                  skip
                  exact ⟨(i + 1, low, last, I, adi, ci, O, ado, co, L, ad1, c1), ⟨by show i + 1 ≤ _; omega, hWI, by show I.length ≤ i + 1; omega, hIl, hmlow, fun h => by omega⟩, (hT.keep [8, 6, 7, 5, 4, 28, 3, 24, 21, 0] rfl), (H.keep [1, 2, 3, 4, 5, 6, 7, 8] rfl rfl), by show _ - (i + 1) < _ - i; omega⟩
              · try simp only [decide_eq_true_eq, decide_eq_false_iff_not, Bool.not_eq_true', Bool.not_eq_false', Bool.not_eq_true, Bool.not_eq_false, Bool.and_eq_true, Bool.or_eq_false_iff, beq_iff_eq, bne_iff_ne, Int.not_lt, Int.not_le, ne_eq] at hc33
                refine Sx.st_runskip hT rfl rfl rfl rfl ?_
                clear hT; intro a hT
                refine Sx.st_runskip hT rfl rfl rfl rfl ?_
                clear hT; intro a hT
                refine Sx.st_take hT rfl rfl rfl rfl (Sx.x_pick_f hT rfl rfl rfl) ?_
                clear hT; intro a hT
                refine Sx.st_take hT rfl rfl rfl rfl (Sx.x_move hT rfl rfl) ?_
                clear hT; intro a hT
                refine Sx.st_runskip hT rfl rfl rfl rfl ?_
                clear hT; intro a hT
                refine Sx.st_runskip hT rfl rfl rfl rfl ?_
                clear hT; intro a hT
                refine Sx.st_runskip hT rfl rfl rfl rfl ?_
                clear hT; intro a hT
                refine Sx.st_skip hT rfl rfl rfl rfl ?_
                clear hT; intro a hT
                refine Sx.st_take hT rfl rfl rfl rfl (Sx.x_pick_f hT rfl rfl rfl) ?_
                clear hT; intro a hT
                refine Sx.st_take hT rfl rfl rfl rfl (Sx.x_pick_f hT rfl rfl rfl) ?_
                clear hT; intro a hT
                refine Sx.st_take hT rfl rfl rfl rfl (Sx.x_assign hT rfl rfl) ?_
                clear hT; intro a hT
                replace hT := hT.keep [86, 47, 41, 9, 34, 8, 6, 7, 5, 4, 28, 3, 24, 21, 0] rfl
                refine Sx.ser_nil ?_
                refine Sx.then_normal (hK31 _ _ ?_)
                clear hK31
                refine Sx.wp_if hT rfl (fun h => by cases h) (fun _ => ?_)
                refine wp_skip ?_
                refine Sx.block_normal ?_
                refine Sx.block_normal ?_
                refine Sx.then_normal (hK20 _ _ ?_)
                clear hK20
                -- region 14 (law.go:113)
                refine Sx.wp_text [(0, .take), (1, .take), (2, .take)] rfl ?_
                refine Sx.st_take hT rfl rfl rfl rfl (Sx.x_move hT rfl rfl) ?_
                clear hT; intro a hT
                refine Sx.st_take hT rfl rfl rfl rfl ((fun w => Sx.x_add w hT rfl rfl rfl (Sx.wrap64 (by omega)))) ?_
                clear hT; intro a hT
                refine Sx.st_take hT rfl rfl rfl rfl (Sx.x_assign hT rfl rfl) ?_
                clear hT; intro a hT
                replace hT := hT.keep [8, 86, 47, 41, 9, 34, 6, 7, 5, 4, 28, 3, 24, 21, 0] rfl
                refine Sx.ser_nil ?_
                refine Sx.then_normal ?_
                skip
                exact ⟨(i + 1, low, last, I, adi, ci, O, ado, co, L, ad1, c1), ⟨by show i + 1 ≤ _; omega, hWI, by show I.length ≤ i + 1; omega, hIl, hmlow, fun h => by omega⟩, (hT.keep [8, 6, 7, 5, 4, 28, 3, 24, 21, 0] rfl), (H.keep [1, 2, 3, 4, 5, 6, 7, 8] rfl rfl), by show _ - (i + 1) < _ - i; omega⟩
        · exfalso
          try simp only [decide_eq_true_eq, decide_eq_false_iff_not, Bool.not_eq_true', Bool.not_eq_false', Bool.not_eq_true, Bool.not_eq_false, Bool.and_eq_true, Bool.or_eq_false_iff, beq_iff_eq, bne_iff_ne, Int.not_lt, Int.not_le, ne_eq] at hc26
          omega
      · try simp only [decide_eq_true_eq, decide_eq_false_iff_not, Bool.not_eq_true', Bool.not_eq_false', Bool.not_eq_true, Bool.not_eq_false, Bool.and_eq_true, Bool.or_eq_false_iff, beq_iff_eq, bne_iff_ne, Int.not_lt, Int.not_le, ne_eq] at hc24
        have hil : i = l.length := by omega
        have hWl := hWI.len
        rw [List.length_map, List.length_map, List.length_map] at hWl
        have hat9 : ¬ ltS smax low := may_max hmlow
        refine wp_skip ?_
        refine Sx.then_normal (hK22 _ _ ?_)
        clear hK22
        refine wp_block ?_
        refine wp_seq_k fun K48 hK48 => ?_
        -- region 18 (law.go:119)
        refine Sx.wp_text [(0, .take), (1, .take), (2, .take), (3, .take), (4, .take), (5, .take), (6, .take), (7, .take), (8, .take), (9, .run), (10, .take), (11, .take), (12, .take)] rfl ?_
        refine Sx.st_take hT rfl rfl rfl rfl (Sx.x_move hT rfl rfl) ?_
        clear hT; intro a hT
        refine Sx.st_take hT rfl rfl rfl rfl (Sx.x_move hT rfl rfl) ?_
        clear hT; intro a hT
        refine Sx.st_take hT rfl rfl rfl rfl (Sx.x_len_slice hT rfl rfl Try.underlying22 rfl) ?_
        clear hT; intro a hT
        refine Sx.st_take hT rfl rfl rfl rfl ((fun w => Sx.x_lt w hT rfl rfl rfl)) ?_
        clear hT; intro a hT
        refine Sx.st_take hT rfl rfl rfl rfl (Sx.x_move hT rfl rfl) ?_
        clear hT; intro a hT
        -- guard (18, 4)
        refine Sx.Sl.two hT 52 rfl (fun hc49 hT => ?_) (fun hc49 hT => ?_)
        · exfalso
          try simp only [decide_eq_true_eq, decide_eq_false_iff_not, Bool.not_eq_true', Bool.not_eq_false', Bool.not_eq_true, Bool.not_eq_false, Bool.and_eq_true, Bool.or_eq_false_iff, beq_iff_eq, bne_iff_ne, Int.not_lt, Int.not_le, ne_eq] at hc49
          omega
        · try simp only [decide_eq_true_eq, decide_eq_false_iff_not, Bool.not_eq_true', Bool.not_eq_false', Bool.not_eq_true, Bool.not_eq_false, Bool.and_eq_true, Bool.or_eq_false_iff, beq_iff_eq, bne_iff_ne, Int.not_lt, Int.not_le, ne_eq] at hc49
          refine Sx.st_skip hT rfl rfl rfl rfl ?_
          clear hT; intro a hT
          refine Sx.st_skip hT rfl rfl rfl rfl ?_
          clear hT; intro a hT
          refine Sx.st_skip hT rfl rfl rfl rfl ?_
          clear hT; intro a hT
          refine Sx.st_skip hT rfl rfl rfl rfl ?_
          clear hT; intro a hT
          refine Sx.st_runskip hT rfl rfl rfl rfl ?_
          clear hT; intro a hT
          refine Sx.st_skip hT rfl rfl rfl rfl ?_
          clear hT; intro a hT
          refine Sx.st_take hT rfl rfl rfl rfl (Sx.x_pick_f hT rfl rfl rfl) ?_
          clear hT; intro a hT
          refine Sx.st_take hT rfl rfl rfl rfl (Sx.x_assign hT rfl rfl) ?_
          clear hT; intro a hT
          replace hT := hT.keep [47, 41, 9, 34, 8, 6, 7, 5, 4, 28, 3, 24, 21, 0] rfl
          refine Sx.ser_nil ?_
          refine Sx.then_normal (hK48 _ _ ?_)
          clear hK48
          refine Sx.wp_if hT rfl (fun h => by cases h) (fun _ => ?_)
          refine wp_seq_k fun K50 hK50 => ?_
          -- region 21 (law.go:123)
          refine Sx.wp_text [(0, .take), (1, .take), (2, .take), (3, .take), (4, .take), (5, .take), (6, .take), (7, .take), (8, .take), (9, .run), (10, .take), (11, .take), (12, .run), (13, .run), (14, .take), (15, .take), (16, .run), (17, .run), (18, .run), (19, .take), (20, .take), (21, .take), (22, .take)] rfl ?_
          refine Sx.st_take hT rfl rfl rfl rfl (Sx.x_move hT rfl rfl) ?_
          clear hT; intro a hT
          refine Sx.st_take hT rfl rfl rfl rfl (Sx.x_move hT rfl rfl) ?_
          clear hT; intro a hT
          refine Sx.st_take hT rfl rfl rfl rfl (Sx.x_len_slice hT rfl rfl Try.underlying22 rfl) ?_
          clear hT; intro a hT
          refine Sx.st_take hT rfl rfl rfl rfl ((fun w => Sx.x_eq w hT rfl rfl rfl)) ?_
          clear hT; intro a hT
          refine Sx.st_take hT rfl rfl rfl rfl (Sx.x_move hT rfl rfl) ?_
          clear hT; intro a hT
          -- guard (21, 4)
          refine Sx.Sl.two hT 91 rfl (fun hc51 hT => ?_) (fun hc51 hT => ?_)
          · try simp only [decide_eq_true_eq, decide_eq_false_iff_not, Bool.not_eq_true', Bool.not_eq_false', Bool.not_eq_true, Bool.not_eq_false, Bool.and_eq_true, Bool.or_eq_false_iff, beq_iff_eq, bne_iff_ne, Int.not_lt, Int.not_le, ne_eq] at hc51
            refine Sx.st_skip hT rfl rfl rfl rfl ?_
            clear hT; intro a hT
            refine Sx.st_skip hT rfl rfl rfl rfl ?_
            clear hT; intro a hT
            refine Sx.st_skip hT rfl rfl rfl rfl ?_
            clear hT; intro a hT
            refine Sx.st_skip hT rfl rfl rfl rfl ?_
            clear hT; intro a hT
            refine Sx.st_runskip hT rfl rfl rfl rfl ?_
            clear hT; intro a hT
            refine Sx.st_skip hT rfl rfl rfl rfl ?_
            clear hT; intro a hT
            refine Sx.st_skip hT rfl rfl rfl rfl ?_
            clear hT; intro a hT
            refine Sx.st_runskip hT rfl rfl rfl rfl ?_
            clear hT; intro a hT
            refine Sx.st_runskip hT rfl rfl rfl rfl ?_
            clear hT; intro a hT
            refine Sx.st_skip hT rfl rfl rfl rfl ?_
            clear hT; intro a hT
            refine Sx.st_skip hT rfl rfl rfl rfl ?_
            clear hT; intro a hT
            refine Sx.st_runskip hT rfl rfl rfl rfl ?_
            clear hT; intro a hT
            refine Sx.st_runskip hT rfl rfl rfl rfl ?_
            clear hT; intro a hT
            refine Sx.st_runskip hT rfl rfl rfl rfl ?_
            clear hT; intro a hT
            refine Sx.st_skip hT rfl rfl rfl rfl ?_
            clear hT; intro a hT
            refine Sx.st_skip hT rfl rfl rfl rfl ?_
            clear hT; intro a hT
            refine Sx.st_take hT rfl rfl rfl rfl (Sx.x_pick_t hT rfl rfl rfl) ?_
            clear hT; intro a hT
            refine Sx.st_take hT rfl rfl rfl rfl (Sx.x_assign hT rfl rfl) ?_
            clear hT; intro a hT
            replace hT := hT.keep [86, 47, 41, 9, 34, 8, 6, 7, 5, 4, 28, 3, 24, 21, 0] rfl
            refine Sx.ser_nil ?_
            refine Sx.then_normal (hK50 _ _ ?_)
            clear hK50
            refine Sx.wp_if hT rfl (fun _ => ?_) (fun h => by cases h)
            skip
            refine wp_seq_k fun K52 hK52 => ?_
            -- region 22 (law.go:124)
            refine Sx.wp_text [(0, .run), (1, .run)] rfl ?_
            refine Sx.st_run hT rfl rfl rfl rfl (Sx.y_loadS hT rfl Try.underlying28 Try.ti28 rfl ((H.blk 0 rfl).seg (k := 3) rfl) (by rfl)) ?_
            clear hT; intro a hT
            refine Sx.st_act hT rfl rfl rfl (Sx.y_storeS hT rfl Try.ti28 rfl rfl rfl rfl rfl (H.blk 1 rfl) rfl) ?_
            rintro w26 ⟨hb, E, _⟩
            replace H := H.setB 1 rfl hb E rfl; clear hb E
            replace hT := hT.keep [86, 47, 41, 9, 34, 8, 6, 7, 5, 4, 28, 3, 24, 21, 0] rfl
            refine Sx.ser_nil ?_
            refine Sx.then_normal (hK52 _ _ ?_)
            clear hK52
            refine wp_seq_k fun K53 hK53 => ?_
            -- region 23 (law.go:125)
            refine Sx.wp_text [(0, .take), (1, .run), (2, .run), (3, .take)] rfl ?_
            refine Sx.st_take hT rfl rfl rfl rfl (Sx.x_move hT rfl rfl) ?_
            clear hT; intro a hT
            refine Sx.st_run hT rfl rfl rfl rfl (Sx.y_loadS hT rfl Try.underlying28 Try.ti28 rfl ((H.blk 0 rfl).seg (k := 3) rfl) (by rfl)) ?_
            clear hT; intro a hT
            refine Sx.st_call hT rfl rfl rfl rfl rfl Try.can13 rfl (Upto_calls smax (H.pre [6, 7, 8] rfl rfl) hWI.held (by omega)) ?_
            rintro _ w27 ⟨ad9, c9, E9, ade, ce, L1, rfl, K, hE9, hp1⟩
            refine ⟨_, rfl, ?_⟩
            clear hT; intro a hT
            replace H := H.back [6, 7, 8] [0, 1, 2, 3, 4, 5] rfl rfl rfl K rfl; clear K
            obtain ⟨hr1, hr2, hr3⟩ := hWI.rise hat9
            have hbn := (upx hWI.held smax).len
            have hbn2 := cntS_le smax (L.map Fr.p)
            rw [List.length_map] at hbn2
            have hE9n : E9.length ≤ L.length := by rw [show E9.length = (E9.map En.p).length from by rw [List.length_map], hE9]; omega
            have hL10 : L1 = [] := List.map_eq_nil_iff.1 (hp1.trans (upto_max hWI.held))
            refine Sx.st_take hT rfl rfl rfl rfl (Sx.x_assign hT rfl rfl) ?_
            clear hT; intro a hT
            replace hT := hT.keep [10, 86, 47, 41, 9, 34, 8, 6, 7, 5, 4, 28, 3, 24, 21, 0] rfl
            refine Sx.ser_nil ?_
            refine Sx.then_normal (hK53 _ _ ?_)
            clear hK53
            refine wp_seq_k fun K54 hK54 => ?_
            refine wp_seq_k fun K55 hK55 => ?_
            -- region 24 (law.go:126)
            refine Sx.wp_text [(0, .take)] rfl ?_
            refine Sx.st_take hT rfl rfl rfl rfl (Sx.x_assign hT rfl rfl) ?_
            clear hT; intro a hT
            replace hT := hT.keep [11, 10, 86, 47, 41, 9, 34, 8, 6, 7, 5, 4, 28, 3, 24, 21, 0] rfl
            refine Sx.ser_nil ?_
            refine Sx.then_normal (hK55 _ _ ?_)
            clear hK55
            refine wp_block ?_
            -- loop 1
            refine Sx.wp_loopH (G := Nat × Stp) (fun ⟨k, last1⟩ => [(11, .int .i64 (k : Int))]) (fun ⟨k, last1⟩ => [cB b2 [.int .i64 last1.w, .int .i64 last1.l, .int .i64 last1.n] 28]) (fun ⟨k, last1⟩ => k ≤ E9.length ∧ last1 = lastE last ((uptoE (L.map Fr.p) smax).take k)) (fun ⟨k, last1⟩ => E9.length - k) (0, last) (hT.keep [11, 10, 86, 47, 41, 9, 34, 8, 6, 7, 5, 4, 28, 3, 24, 21, 0] rfl) (H.keep [7, 0, 1, 2, 3, 4, 5, 6, 8, 9, 10] rfl rfl) (⟨Nat.zero_le _, (by rw [List.take_zero]; rfl)⟩) ?_
            clear hT H
            rintro ⟨k, last1⟩ a w28 hJ hT H
            replace hT := hT.keep [11, 10, 86, 47, 41, 9, 34, 8, 6, 7, 5, 4, 28, 3, 24, 21, 0] rfl
            replace H := H.keep [0, 1, 2, 3, 4, 5, 6, 7, 8, 9, 10] rfl rfl
            obtain ⟨hk, hlast1⟩ := hJ
            refine wp_seq_k fun K56 hK56 => ?_
            refine wp_seq_k fun K57 hK57 => ?_
            -- region 25 (law.go:126)
            refine Sx.wp_text [(0, .take), (1, .take), (2, .take), (3, .take)] rfl ?_
            refine Sx.st_take hT rfl rfl rfl rfl (Sx.x_move hT rfl rfl) ?_
            clear hT; intro a hT
            refine Sx.st_take hT rfl rfl rfl rfl (Sx.x_move hT rfl rfl) ?_
            clear hT; intro a hT
            refine Sx.st_take hT rfl rfl rfl rfl (Sx.x_len_slice hT rfl rfl Try.underlying30 rfl) ?_
            clear hT; intro a hT
            refine Sx.st_take hT rfl rfl rfl rfl ((fun w => Sx.x_lt w hT rfl rfl rfl)) ?_
            clear hT; intro a hT
            replace hT := hT.keep [116, 11, 10, 86, 47, 41, 9, 34, 8, 6, 7, 5, 4, 28, 3, 24, 21, 0] rfl
            refine Sx.ser_nil ?_
            refine Sx.then_normal (hK57 _ _ ?_)
            clear hK57
            -- cond 8
            refine Sx.wp_if hT rfl (fun hc58 => ?_) (fun hc58 => ?_)
            · try simp only [decide_eq_true_eq, decide_eq_false_iff_not, Bool.not_eq_true', Bool.not_eq_false', Bool.not_eq_true, Bool.not_eq_false, Bool.and_eq_true, Bool.or_eq_false_iff, beq_iff_eq, bne_iff_ne, Int.not_lt, Int.not_le, ne_eq] at hc58
              obtain ⟨e, he⟩ : ∃ o, E9[k]? = some o := ⟨_, List.getElem?_eq_getElem (by omega)⟩
              have hep : (uptoE (L.map Fr.p) smax)[k]? = some e.p := by rw [← hE9, List.getElem?_map, he]; rfl
              have hlt8 : ltS last1 e.s := by rw [hlast1]; exact lastE_lt hr1 hr2 hep
              have hnl8 : ¬ ltS smax e.s := hr3 e.p (List.mem_of_getElem? hep)
              refine wp_skip ?_
              refine Sx.then_normal (hK56 _ _ ?_)
              clear hK56
              refine wp_seq_k fun K59 hK59 => ?_
              refine wp_block ?_
              refine wp_seq_k fun K60 hK60 => ?_
              refine wp_seq_k fun K61 hK61 => ?_
              -- region 27 (law.go:127)
              refine Sx.wp_draws (fun u => Sx.Ext (Sx.No) u) [(0, .held), (1, .take), (2, .take), (3, .take), (4, .take), (5, .held), (6, .keep), (7, .take), (8, .take), (9, .held), (10, .take), (11, .take), (12, .take), (13, .take), (14, .held), (15, .run), (16, .take)] (by kernel_rfl) (by kernel_rfl) (fun u E _ => ?_)
              replace H := H.pure E; clear E
              have hH : Sx.Ext (Sx.No) u u := Sx.Ext.refl _ _
              have Hu := H
              refine Sx.st_held hT rfl rfl rfl rfl hH (fun w' h' => Sx.y_loadS hT rfl Try.underlying28 Try.ti28 rfl ((Hu.heldB 0 rfl h' Sx.off_No).seg (k := 3) rfl) (by rfl)) ?_
              clear hT; intro a hT
              refine Sx.st_take hT rfl rfl rfl rfl (Sx.x_move hT rfl rfl) ?_
              clear hT; intro a hT
              refine Sx.st_take hT rfl rfl rfl rfl (Sx.x_move hT rfl rfl) ?_
              clear hT; intro a hT
              refine Sx.st_take hT rfl rfl rfl rfl (Sx.x_index (k := k) hT rfl Try.underlying30 Try.ti44 (H.row 4 rfl).sv rfl rfl (by first | rfl | omega) (by omega)) ?_
              clear hT; intro a hT
              refine Sx.st_take hT rfl rfl rfl rfl (Sx.x_fieldAddr hT rfl Try.fa44_1 rfl) ?_
              clear hT; intro a hT
              refine Sx.st_held hT rfl rfl rfl rfl hH (fun w' h' => Sx.y_loadS hT rfl Try.underlying28 Try.ti28 rfl (((((Hu.heldR 4 rfl h' Sx.off_No).ssn rfl).cs En.len he).seg (i := 3) (k := 3) rfl)) (by rfl)) ?_
              clear hT; intro a hT
              refine Sx.st_callkeep hT rfl rfl rfl rfl rfl Try.can10 rfl (Less_calls last1 e.s _) ?_
              rintro _ w29 ⟨rfl, E⟩
              refine ⟨_, rfl, hH.step E, ?_⟩
              replace hH := hH.step E
              clear hT; intro a hT
              replace H := H.pure E; clear E
              refine Sx.st_take hT rfl rfl rfl rfl (Sx.x_not hT rfl rfl) ?_
              clear hT; intro a hT
              refine Sx.st_take hT rfl rfl rfl rfl (Sx.x_move hT rfl rfl) ?_
              clear hT; intro a hT
              -- guard (27, 8)
              refine Sx.Sl.two hT 127 rfl (fun hc62 hT => ?_) (fun hc62 hT => ?_)
              · exfalso
                try simp only [decide_eq_true_eq, decide_eq_false_iff_not, Bool.not_eq_true', Bool.not_eq_false', Bool.not_eq_true, Bool.not_eq_false, Bool.and_eq_true, Bool.or_eq_false_iff, beq_iff_eq, bne_iff_ne, Int.not_lt, Int.not_le, ne_eq] at hc62
                exact hc62 hlt8
              · try simp only [decide_eq_true_eq, decide_eq_false_iff_not, Bool.not_eq_true', Bool.not_eq_false', Bool.not_eq_true, Bool.not_eq_false, Bool.and_eq_true, Bool.or_eq_false_iff, beq_iff_eq, bne_iff_ne, Int.not_lt, Int.not_le, ne_eq] at hc62
                refine Sx.st_held hT rfl rfl rfl rfl hH (fun w' h' => Sx.y_loadS hT rfl Try.underlying28 Try.ti28 rfl ((Hu.heldB 6 rfl h' Sx.off_No).seg (k := 3) rfl) (by rfl)) ?_
                clear hT; intro a hT
                refine Sx.st_take hT rfl rfl rfl rfl (Sx.x_move hT rfl rfl) ?_
                clear hT; intro a hT
                refine Sx.st_take hT rfl rfl rfl rfl (Sx.x_move hT rfl rfl) ?_
                clear hT; intro a hT
                refine Sx.st_take hT rfl rfl rfl rfl (Sx.x_index (k := k) hT rfl Try.underlying30 Try.ti44 (H.row 4 rfl).sv rfl rfl (by first | rfl | omega) (by omega)) ?_
                clear hT; intro a hT
                refine Sx.st_take hT rfl rfl rfl rfl (Sx.x_fieldAddr hT rfl Try.fa44_1 rfl) ?_
                clear hT; intro a hT
                refine Sx.st_held hT rfl rfl rfl rfl hH (fun w' h' => Sx.y_loadS hT rfl Try.underlying28 Try.ti28 rfl (((((Hu.heldR 4 rfl h' Sx.off_No).ssn rfl).cs En.len he).seg (i := 3) (k := 3) rfl)) (by rfl)) ?_
                clear hT; intro a hT
                refine Sx.st_call hT rfl rfl rfl rfl rfl Try.can10 rfl (Less_calls smax e.s _) ?_
                rintro _ w30 ⟨rfl, E⟩
                refine ⟨_, rfl, ?_⟩
                clear hT; intro a hT
                replace H := H.pure E; clear E
                refine Sx.st_take hT rfl rfl rfl rfl (Sx.x_pick_f hT rfl rfl rfl) ?_
                clear hT; intro a hT
                replace hT := hT.keep [135, 116, 11, 10, 86, 47, 41, 9, 34, 8, 6, 7, 5, 4, 28, 3, 24, 21, 0] rfl
                clear Hu hH
                refine Sx.ser_calm ?_
                refine Sx.then_normal (hK61 _ _ ?_)
                clear hK61
                -- cond 9
                refine Sx.wp_if hT rfl (fun hc63 => ?_) (fun hc63 => ?_)
                · exfalso
                  try simp only [decide_eq_true_eq, decide_eq_false_iff_not, Bool.not_eq_true', Bool.not_eq_false', Bool.not_eq_true, Bool.not_eq_false, Bool.and_eq_true, Bool.or_eq_false_iff, beq_iff_eq, bne_iff_ne, Int.not_lt, Int.not_le, ne_eq] at hc63
                  first | (rw [decide_eq_false hnl8] at hc63; simp at hc63; done) | exact hnl8 hc63
                · try simp only [decide_eq_true_eq, decide_eq_false_iff_not, Bool.not_eq_true', Bool.not_eq_false', Bool.not_eq_true, Bool.not_eq_false, Bool.and_eq_true, Bool.or_eq_false_iff, beq_iff_eq, bne_iff_ne, Int.not_lt, Int.not_le, ne_eq] at hc63
                  refine wp_skip ?_
                  refine Sx.then_normal (hK60 _ _ ?_)
                  clear hK60
                  -- region 29 (law.go:130)
                  refine Sx.wp_text [(0, .take), (1, .take), (2, .take), (3, .take), (4, .run), (5, .run)] rfl ?_
                  refine Sx.st_take hT rfl rfl rfl rfl (Sx.x_move hT rfl rfl) ?_
                  clear hT; intro a hT
                  refine Sx.st_take hT rfl rfl rfl rfl (Sx.x_move hT rfl rfl) ?_
                  clear hT; intro a hT
                  refine Sx.st_take hT rfl rfl rfl rfl (Sx.x_index (k := k) hT rfl Try.underlying30 Try.ti44 (H.row 4 rfl).sv rfl rfl (by first | rfl | omega) (by omega)) ?_
                  clear hT; intro a hT
                  refine Sx.st_take hT rfl rfl rfl rfl (Sx.x_fieldAddr hT rfl Try.fa44_1 rfl) ?_
                  clear hT; intro a hT
                  refine Sx.st_run hT rfl rfl rfl rfl (Sx.y_loadS hT rfl Try.underlying28 Try.ti28 rfl (((((H.row 4 rfl).ssn rfl).cs En.len he).seg (i := 3) (k := 3) rfl)) (by rfl)) ?_
                  clear hT; intro a hT
                  refine Sx.st_act hT rfl rfl rfl (Sx.y_storeS hT rfl Try.ti28 rfl rfl rfl rfl rfl (H.blk 0 rfl) rfl) ?_
                  rintro w31 ⟨hb, E, _⟩
                  replace H := H.setB 0 rfl hb E rfl; clear hb E
                  replace hT := hT.keep [135, 116, 11, 10, 86, 47, 41, 9, 34, 8, 6, 7, 5, 4, 28, 3, 24, 21, 0] rfl
                  refine Sx.ser_nil ?_
                  refine Sx.block_normal ?_
                  refine Sx.then_normal (hK59 _ _ ?_)
                  clear hK59
                  -- region 26 (law.go:126)
                  refine Sx.wp_text [(0, .take), (1, .take), (2, .take)] rfl ?_
                  refine Sx.st_take hT rfl rfl rfl rfl (Sx.x_move hT rfl rfl) ?_
                  clear hT; intro a hT
                  refine Sx.st_take hT rfl rfl rfl rfl ((fun w => Sx.x_add w hT rfl rfl rfl (Sx.wrap64 (by omega)))) ?_
                  clear hT; intro a hT
                  refine Sx.st_take hT rfl rfl rfl rfl (Sx.x_assign hT rfl rfl) ?_
                  clear hT; intro a hT
                  replace hT := hT.keep [11, 135, 116, 10, 86, 47, 41, 9, 34, 8, 6, 7, 5, 4, 28, 3, 24, 21, 0] rfl
                  refine Sx.ser_nil ?_
                  refine Sx.then_normal ?_
                  exact ⟨(k + 1, e.s), ⟨by show k + 1 ≤ _; omega, (lastE_snoc hep).symm⟩, (hT.keep [11, 10, 86, 47, 41, 9, 34, 8, 6, 7, 5, 4, 28, 3, 24, 21, 0] rfl), (H.keep [0, 1, 2, 3, 4, 5, 6, 7, 8, 9, 10] rfl rfl), by show _ - (k + 1) < _ - k; omega⟩
            · try simp only [decide_eq_true_eq, decide_eq_false_iff_not, Bool.not_eq_true', Bool.not_eq_false', Bool.not_eq_true, Bool.not_eq_false, Bool.and_eq_true, Bool.or_eq_false_iff, beq_iff_eq, bne_iff_ne, Int.not_lt, Int.not_le, ne_eq] at hc58
              have hkE : k = E9.length := by omega
              rw [hkE, show E9.length = (uptoE (L.map Fr.p) smax).length from by rw [← hE9, List.length_map], List.take_length] at hlast1
              refine wp_exit ?_
              refine Sx.then_exit ?_
              refine Sx.then_exit ?_
              refine Sx.block_exit ?_
              refine Sx.then_normal (hK54 _ _ ?_)
              clear hK54
              -- region 30 (law.go:132)
              refine Sx.wp_text [(0, .take), (1, .take), (2, .run), (3, .take)] rfl ?_
              refine Sx.st_take hT rfl rfl rfl rfl (Sx.x_move hT rfl rfl) ?_
              clear hT; intro a hT
              refine Sx.st_take hT rfl rfl rfl rfl (Sx.x_move hT rfl rfl) ?_
              clear hT; intro a hT
              refine Sx.st_eff hT rfl rfl rfl rfl (Sx.x_append hT rfl rfl Try.underlying30 Try.ti44 rfl (by decide) rfl rfl (H.row 9 rfl) (H.row 4 rfl).sv (fun u hu => flat_one En.one _ u hu) (rownil (H.row 4 rfl)) (by unfold maxLen; omega) (by omega)) ?_
              rintro _ w32 ⟨ad32, c32, rfl, hr, E, hown, -⟩
              clear hT; intro a hT
              replace H := H.setR 9 rfl hr E hown rfl; clear hr E hown
              rw [cat_en, show O.length + E9.length = (O ++ E9).length from List.length_append.symm] at H
              rw [show O.length + E9.length = (O ++ E9).length from List.length_append.symm] at hT
              replace H := H.famCat 10 5 rfl rfl rfl [0, 1, 2, 3, 4, 6, 7, 8, 9] rfl rfl
              refine Sx.st_take hT rfl rfl rfl rfl (Sx.x_assign hT rfl rfl) ?_
              clear hT; intro a hT
              replace hT := hT.keep [7, 116, 11, 10, 86, 47, 41, 9, 34, 8, 6, 5, 4, 28, 3, 24, 21, 0] rfl
              refine Sx.ser_nil ?_
              refine Sx.block_normal ?_
              refine Sx.block_normal ?_
              refine Sx.then_normal (hK20 _ _ ?_)
              clear hK20
              -- region 14 (law.go:113)
              refine Sx.wp_text [(0, .take), (1, .take), (2, .take)] rfl ?_
              refine Sx.st_take hT rfl rfl rfl rfl (Sx.x_move hT rfl rfl) ?_
              clear hT; intro a hT
              refine Sx.st_take hT rfl rfl rfl rfl ((fun w => Sx.x_add w hT rfl rfl rfl (Sx.wrap64 (by omega)))) ?_
              clear hT; intro a hT
              refine Sx.st_take hT rfl rfl rfl rfl (Sx.x_assign hT rfl rfl) ?_
              clear hT; intro a hT
              replace hT := hT.keep [8, 7, 116, 11, 10, 86, 47, 41, 9, 34, 6, 5, 4, 28, 3, 24, 21, 0] rfl
              refine Sx.ser_nil ?_
              refine Sx.then_normal ?_
              have hWI2 : WI (I.map Fr.p) ((O ++ E9).map En.p) (L1.map Fr.p) smax last1 := by
                rw [hp1, List.map_append, hE9, hlast1]
                exact hWI.upto hat9
              exact ⟨(i + 1, smax, last1, I, adi, ci, O ++ E9, ad32, c32, L1, ad9, c9), ⟨by show i + 1 ≤ _; omega, hWI2, by show I.length ≤ i + 1; omega, hIl, by decide, fun _ => hL10⟩, (hT.keep [8, 6, 7, 5, 4, 28, 3, 24, 21, 0] rfl), (H.keep [7, 1, 8, 9, 0, 2, 3, 4] rfl rfl), by show _ - (i + 1) < _ - i; omega⟩
          · exfalso
            try simp only [decide_eq_true_eq, decide_eq_false_iff_not, Bool.not_eq_true', Bool.not_eq_false', Bool.not_eq_true, Bool.not_eq_false, Bool.and_eq_true, Bool.or_eq_false_iff, beq_iff_eq, bne_iff_ne, Int.not_lt, Int.not_le, ne_eq] at hc51
            omega
    · try simp only [decide_eq_true_eq, decide_eq_false_iff_not, Bool.not_eq_true', Bool.not_eq_false', Bool.not_eq_true, Bool.not_eq_false, Bool.and_eq_true, Bool.or_eq_false_iff, beq_iff_eq, bne_iff_ne, Int.not_lt, Int.not_le, ne_eq] at hc19
      have hLe : L = [] := hLn (by omega)
      subst hLe
      have hsum := hWI.sum
      rw [sum_map, sum_mapE] at hsum
      have hI16 : ∀ x ∈ I, x.ws.length ≤ 16 := fun x hx => hWI.small x.p (List.mem_map_of_mem hx)
      have hsb := sum_bd hWI.small
      rw [sum_map, List.length_map] at hsb
      have hI3 : I.length ≤ 301 := by omega
      have hg0 : sumN wlF (List.map Fr.p ([] : List Fr)) = 0 := rfl
      have hOl := hWI.len
      rw [List.length_map, List.length_map, List.length_map] at hOl
      refine wp_exit ?_
      refine Sx.then_exit ?_
      refine Sx.then_exit ?_
      refine Sx.block_exit ?_
      refine Sx.then_normal (hK15 _ _ ?_)
      clear hK15
      refine wp_seq_k fun K64 hK64 => ?_
      -- region 31 (law.go:135)
      refine Sx.wp_text [(0, .take)] rfl ?_
      refine Sx.st_take hT rfl rfl rfl rfl (Sx.x_assign hT rfl rfl) ?_
      clear hT; intro a hT
      replace hT := hT.keep [12, 34, 8, 6, 7, 5, 4, 28, 3, 24, 21, 0] rfl
      refine Sx.ser_nil ?_
      refine Sx.then_normal (hK64 _ _ ?_)
      clear hK64
      refine wp_seq_k fun K65 hK65 => ?_
      refine wp_seq_k fun K66 hK66 => ?_
      -- region 32 (law.go:136)
      refine Sx.wp_text [(0, .take)] rfl ?_
      refine Sx.st_take hT rfl rfl rfl rfl (Sx.x_assign hT rfl rfl) ?_
      clear hT; intro a hT
      replace hT := hT.keep [13, 12, 34, 8, 6, 7, 5, 4, 28, 3, 24, 21, 0] rfl
      refine Sx.ser_nil ?_
      refine Sx.then_normal (hK66 _ _ ?_)
      clear hK66
      refine wp_block ?_
      -- loop 2
      refine Sx.wp_loopH (G := Nat × Nat) (fun ⟨k1, n⟩ => [(13, .int .i64 (k1 : Int)), (12, .int .i64 (n : Int))]) (fun ⟨k1, n⟩ => []) (fun ⟨k1, n⟩ => k1 ≤ O.length ∧ n = sumN (fun y => y.ws.length) (O.take k1)) (fun ⟨k1, n⟩ => O.length - k1) (0, 0) (hT.keep [13, 12, 34, 8, 6, 7, 5, 4, 28, 3, 24, 21, 0] rfl) (H.keep [0, 1, 2, 3, 4, 5, 6, 7] rfl rfl) (⟨Nat.zero_le _, (by rw [List.take_zero]; rfl)⟩) ?_
      clear hT H
      rintro ⟨k1, n⟩ a w33 hJ hT H
      replace hT := hT.keep [13, 12, 34, 8, 6, 7, 5, 4, 28, 3, 24, 21, 0] rfl
      replace H := H.keep [0, 1, 2, 3, 4, 5, 6, 7] rfl rfl
      obtain ⟨hk1, hn⟩ := hJ
      have hnb := sum_tk (fun y : En => y.ws.length) O k1
      refine wp_seq_k fun K67 hK67 => ?_
      refine wp_seq_k fun K68 hK68 => ?_
      -- region 33 (law.go:136)
      refine Sx.wp_text [(0, .take), (1, .take), (2, .take), (3, .take)] rfl ?_
      refine Sx.st_take hT rfl rfl rfl rfl (Sx.x_move hT rfl rfl) ?_
      clear hT; intro a hT
      refine Sx.st_take hT rfl rfl rfl rfl (Sx.x_move hT rfl rfl) ?_
      clear hT; intro a hT
      refine Sx.st_take hT rfl rfl rfl rfl (Sx.x_len_slice hT rfl rfl Try.underlying30 rfl) ?_
      clear hT; intro a hT
      refine Sx.st_take hT rfl rfl rfl rfl ((fun w => Sx.x_lt w hT rfl rfl rfl)) ?_
      clear hT; intro a hT
      replace hT := hT.keep [147, 13, 12, 34, 8, 6, 7, 5, 4, 28, 3, 24, 21, 0] rfl
      refine Sx.ser_nil ?_
      refine Sx.then_normal (hK68 _ _ ?_)
      clear hK68
      -- cond 10
      refine Sx.wp_if hT rfl (fun hc69 => ?_) (fun hc69 => ?_)
      · try simp only [decide_eq_true_eq, decide_eq_false_iff_not, Bool.not_eq_true', Bool.not_eq_false', Bool.not_eq_true, Bool.not_eq_false, Bool.and_eq_true, Bool.or_eq_false_iff, beq_iff_eq, bne_iff_ne, Int.not_lt, Int.not_le, ne_eq] at hc69
        obtain ⟨y, hy⟩ : ∃ o, O[k1]? = some o := ⟨_, List.getElem?_eq_getElem (by omega)⟩
        have hym := List.mem_of_getElem? hy
        obtain ⟨hyr, hy1, hyc, hyin⟩ := hWI.entry hym
        have hybd := cntM_bd (y := y) hI16 I.length (Nat.le_refl _)
        refine wp_skip ?_
        refine Sx.then_normal (hK67 _ _ ?_)
        clear hK67
        refine wp_seq_k fun K70 hK70 => ?_
        refine wp_block ?_
        refine wp_seq_k fun K71 hK71 => ?_
        -- region 35 (law.go:137)
        refine Sx.wp_text [(0, .take)] rfl ?_
        refine Sx.st_take hT rfl rfl rfl rfl (Sx.x_assign hT rfl rfl) ?_
        clear hT; intro a hT
        replace hT := hT.keep [14, 147, 13, 12, 34, 8, 6, 7, 5, 4, 28, 3, 24, 21, 0] rfl
        refine Sx.ser_nil ?_
        refine Sx.then_normal (hK71 _ _ ?_)
        clear hK71
        refine wp_seq_k fun K72 hK72 => ?_
        refine wp_seq_k fun K73 hK73 => ?_
        -- region 36 (law.go:138)
        refine Sx.wp_text [(0, .take)] rfl ?_
        refine Sx.st_take hT rfl rfl rfl rfl (Sx.x_assign hT rfl rfl) ?_
        clear hT; intro a hT
        replace hT := hT.keep [15, 14, 147, 13, 12, 34, 8, 6, 7, 5, 4, 28, 3, 24, 21, 0] rfl
        refine Sx.ser_nil ?_
        refine Sx.then_normal (hK73 _ _ ?_)
        clear hK73
        refine wp_block ?_
        -- loop 3
        refine Sx.wp_loopH (G := Nat × Nat) (fun ⟨k2, m⟩ => [(15, .int .i64 (k2 : Int)), (14, .int .i64 (m : Int))]) (fun ⟨k2, m⟩ => []) (fun ⟨k2, m⟩ => k2 ≤ I.length ∧ m = cntM I y k2) (fun ⟨k2, m⟩ => I.length - k2) (0, 0) (hT.keep [15, 14, 147, 13, 12, 34, 8, 6, 7, 5, 4, 28, 3, 24, 21, 0] rfl) (H.keep [0, 1, 2, 3, 4, 5, 6, 7] rfl rfl) (⟨Nat.zero_le _, rfl⟩) ?_
        clear hT H
        rintro ⟨k2, m⟩ a w34 hJ hT H
        replace hT := hT.keep [15, 14, 147, 13, 12, 34, 8, 6, 7, 5, 4, 28, 3, 24, 21, 0] rfl
        replace H := H.keep [0, 1, 2, 3, 4, 5, 6, 7] rfl rfl
        obtain ⟨hk2, hm⟩ := hJ
        refine wp_seq_k fun K74 hK74 => ?_
        refine wp_seq_k fun K75 hK75 => ?_
        -- region 37 (law.go:138)
        refine Sx.wp_text [(0, .take), (1, .take), (2, .take), (3, .take)] rfl ?_
        refine Sx.st_take hT rfl rfl rfl rfl (Sx.x_move hT rfl rfl) ?_
        clear hT; intro a hT
        refine Sx.st_take hT rfl rfl rfl rfl (Sx.x_move hT rfl rfl) ?_
        clear hT; intro a hT
        refine Sx.st_take hT rfl rfl rfl rfl (Sx.x_len_slice hT rfl rfl Try.underlying29 rfl) ?_
        clear hT; intro a hT
        refine Sx.st_take hT rfl rfl rfl rfl ((fun w => Sx.x_lt w hT rfl rfl rfl)) ?_
        clear hT; intro a hT
        replace hT := hT.keep [153, 15, 14, 147, 13, 12, 34, 8, 6, 7, 5, 4, 28, 3, 24, 21, 0] rfl
        refine Sx.ser_nil ?_
        refine Sx.then_normal (hK75 _ _ ?_)
        clear hK75
        -- cond 11
        refine Sx.wp_if hT rfl (fun hc76 => ?_) (fun hc76 => ?_)
        · try simp only [decide_eq_true_eq, decide_eq_false_iff_not, Bool.not_eq_true', Bool.not_eq_false', Bool.not_eq_true, Bool.not_eq_false, Bool.and_eq_true, Bool.or_eq_false_iff, beq_iff_eq, bne_iff_ne, Int.not_lt, Int.not_le, ne_eq] at hc76
          obtain ⟨x, hx⟩ : ∃ o, I[k2]? = some o := ⟨_, List.getElem?_eq_getElem (by omega)⟩
          have hxm := List.mem_of_getElem? hx
          have hxb := hI16 x hxm
          have hmb := cntM_bd (y := y) hI16 k2 hk2
          obtain ⟨ox, hox, hoxe⟩ := hIl x hxm
          have RMx : Ro w No (fun u => Ss u x.ad Wt.cells 4 x.ws) := RM.mono fun u h => by rw [← hoxe]; exact h ox hox
          refine wp_skip ?_
          refine Sx.then_normal (hK74 _ _ ?_)
          clear hK74
          refine wp_seq_k fun K77 hK77 => ?_
          refine wp_block ?_
          refine wp_seq_k fun K78 hK78 => ?_
          refine wp_seq_k fun K79 hK79 => ?_
          -- region 39 (law.go:139)
          refine Sx.wp_draws (fun u => Sx.Ext (Sx.No) u) [(0, .take), (1, .take), (2, .take), (3, .take), (4, .held), (5, .take), (6, .take), (7, .take), (8, .take), (9, .held), (10, .take), (11, .take), (12, .take), (13, .take), (14, .take), (15, .take), (16, .held), (17, .take), (18, .take), (19, .take), (20, .take), (21, .held), (22, .take), (23, .take)] (by kernel_rfl) (by kernel_rfl) (fun u E _ => ?_)
          replace H := H.pure E; clear E
          have hH : Sx.Ext (Sx.No) u u := Sx.Ext.refl _ _
          have Hu := H
          refine Sx.st_take hT rfl rfl rfl rfl (Sx.x_move hT rfl rfl) ?_
          clear hT; intro a hT
          refine Sx.st_take hT rfl rfl rfl rfl (Sx.x_move hT rfl rfl) ?_
          clear hT; intro a hT
          refine Sx.st_take hT rfl rfl rfl rfl (Sx.x_index (k := k2) hT rfl Try.underlying29 Try.ti35 (H.row 2 rfl).sv rfl rfl (by first | rfl | omega) (by omega)) ?_
          clear hT; intro a hT
          refine Sx.st_take hT rfl rfl rfl rfl (Sx.x_fieldAddr hT rfl Try.fa35_2 rfl) ?_
          clear hT; intro a hT
          refine Sx.st_held hT rfl rfl rfl rfl hH (fun w' h' => Sx.y_loadS hT rfl Try.underlying32 Try.ti32 rfl (((((Hu.heldR 2 rfl h' Sx.off_No).ssn rfl).cs Fr.len hx).seg (i := 2) (k := 3) rfl)) (by rfl)) ?_
          clear hT; intro a hT
          refine Sx.st_take hT rfl rfl rfl rfl (Sx.x_move hT rfl rfl) ?_
          clear hT; intro a hT
          refine Sx.st_take hT rfl rfl rfl rfl (Sx.x_move hT rfl rfl) ?_
          clear hT; intro a hT
          refine Sx.st_take hT rfl rfl rfl rfl (Sx.x_index (k := k1) hT rfl Try.underlying30 Try.ti44 (H.row 3 rfl).sv rfl rfl (by first | rfl | omega) (by omega)) ?_
          clear hT; intro a hT
          refine Sx.st_take hT rfl rfl rfl rfl (Sx.x_fieldAddr hT rfl Try.fa44_0 rfl) ?_
          clear hT; intro a hT
          refine Sx.st_held hT rfl rfl rfl rfl hH (fun w' h' => Sx.y_loadS hT rfl Try.underlying32 Try.ti32 rfl (((((Hu.heldR 3 rfl h' Sx.off_No).ssn rfl).cs En.len hy).seg (i := 0) (k := 3) rfl)) (by rfl)) ?_
          clear hT; intro a hT
          refine Sx.st_take hT rfl rfl rfl rfl (Sx.x_neS hT rfl (by kernel_rfl) (Try.eq32 _ _ _ _ _ _) rfl rfl rfl) ?_
          clear hT; intro a hT
          refine Sx.st_take hT rfl rfl rfl rfl (Sx.x_move hT rfl rfl) ?_
          clear hT; intro a hT
          -- guard (39, 11)
          refine Sx.Sl.two hT 167 rfl (fun hc80 hT => ?_) (fun hc80 hT => ?_)
          · try simp only [decide_eq_true_eq, decide_eq_false_iff_not, Bool.not_eq_true', Bool.not_eq_false', Bool.not_eq_true, Bool.not_eq_false, Bool.and_eq_true, Bool.or_eq_false_iff, beq_iff_eq, bne_iff_ne, Int.not_lt, Int.not_le, ne_eq] at hc80
            refine Sx.st_skip hT rfl rfl rfl rfl ?_
            clear hT; intro a hT
            refine Sx.st_skip hT rfl rfl rfl rfl ?_
            clear hT; intro a hT
            refine Sx.st_skip hT rfl rfl rfl rfl ?_
            clear hT; intro a hT
            refine Sx.st_skip hT rfl rfl rfl rfl ?_
            clear hT; intro a hT
            refine Sx.st_heldskip hT rfl rfl rfl rfl hH ?_
            clear hT; intro a hT
            refine Sx.st_skip hT rfl rfl rfl rfl ?_
            clear hT; intro a hT
            refine Sx.st_skip hT rfl rfl rfl rfl ?_
            clear hT; intro a hT
            refine Sx.st_skip hT rfl rfl rfl rfl ?_
            clear hT; intro a hT
            refine Sx.st_skip hT rfl rfl rfl rfl ?_
            clear hT; intro a hT
            refine Sx.st_heldskip hT rfl rfl rfl rfl hH ?_
            clear hT; intro a hT
            refine Sx.st_skip hT rfl rfl rfl rfl ?_
            clear hT; intro a hT
            refine Sx.st_take hT rfl rfl rfl rfl (Sx.x_pick_t hT rfl rfl rfl) ?_
            clear hT; intro a hT
            replace hT := hT.keep [179, 153, 15, 14, 147, 13, 12, 34, 8, 6, 7, 5, 4, 28, 3, 24, 21, 0] rfl
            clear Hu hH
            refine Sx.ser_calm ?_
            refine Sx.then_normal (hK79 _ _ ?_)
            clear hK79
            refine Sx.wp_if hT rfl (fun _ => ?_) (fun h => by cases h)
            have hmt : mt y.p x.p = false := by
              unfold mt
              refine decide_eq_false fun h9 => ?_
              have h8 := tn_iff.1 h9.1
              have h7 := stp_iff.1 h9.2
              simp_all [Fr.p, En.p]
            refine wp_exit ?_
            refine Sx.then_exit ?_
            refine Sx.block_exit ?_
            refine Sx.then_normal (hK77 _ _ ?_)
            clear hK77
            -- region 38 (law.go:138)
            refine Sx.wp_text [(0, .take), (1, .take), (2, .take)] rfl ?_
            refine Sx.st_take hT rfl rfl rfl rfl (Sx.x_move hT rfl rfl) ?_
            clear hT; intro a hT
            refine Sx.st_take hT rfl rfl rfl rfl ((fun w => Sx.x_add w hT rfl rfl rfl (Sx.wrap64 (by omega)))) ?_
            clear hT; intro a hT
            refine Sx.st_take hT rfl rfl rfl rfl (Sx.x_assign hT rfl rfl) ?_
            clear hT; intro a hT
            replace hT := hT.keep [15, 179, 153, 14, 147, 13, 12, 34, 8, 6, 7, 5, 4, 28, 3, 24, 21, 0] rfl
            refine Sx.ser_nil ?_
            refine Sx.then_normal ?_
            exact ⟨(k2 + 1, m), ⟨by show k2 + 1 ≤ _; omega, by show m = _; rw [cntM_step hx, hmt, hm]; rfl⟩, (hT.keep [15, 14, 147, 13, 12, 34, 8, 6, 7, 5, 4, 28, 3, 24, 21, 0] rfl), (H.keep [0, 1, 2, 3, 4, 5, 6, 7] rfl rfl), by show _ - (k2 + 1) < _ - k2; omega⟩
          · try simp only [decide_eq_true_eq, decide_eq_false_iff_not, Bool.not_eq_true', Bool.not_eq_false', Bool.not_eq_true, Bool.not_eq_false, Bool.and_eq_true, Bool.or_eq_false_iff, beq_iff_eq, bne_iff_ne, Int.not_lt, Int.not_le, ne_eq] at hc80
            refine Sx.st_take hT rfl rfl rfl rfl (Sx.x_move hT rfl rfl) ?_
            clear hT; intro a hT
            refine Sx.st_take hT rfl rfl rfl rfl (Sx.x_move hT rfl rfl) ?_
            clear hT; intro a hT
            refine Sx.st_take hT rfl rfl rfl rfl (Sx.x_index (k := k2) hT rfl Try.underlying29 Try.ti35 (H.row 2 rfl).sv rfl rfl (by first | rfl | omega) (by omega)) ?_
            clear hT; intro a hT
            refine Sx.st_take hT rfl rfl rfl rfl (Sx.x_fieldAddr hT rfl Try.fa35_3 rfl) ?_
            clear hT; intro a hT
            refine Sx.st_held hT rfl rfl rfl rfl hH (fun w' h' => Sx.y_loadS hT rfl Try.underlying28 Try.ti28 rfl (((((Hu.heldR 2 rfl h' Sx.off_No).ssn rfl).cs Fr.len hx).seg (i := 5) (k := 3) rfl)) (by rfl)) ?_
            clear hT; intro a hT
            refine Sx.st_take hT rfl rfl rfl rfl (Sx.x_move hT rfl rfl) ?_
            clear hT; intro a hT
            refine Sx.st_take hT rfl rfl rfl rfl (Sx.x_move hT rfl rfl) ?_
            clear hT; intro a hT
            refine Sx.st_take hT rfl rfl rfl rfl (Sx.x_index (k := k1) hT rfl Try.underlying30 Try.ti44 (H.row 3 rfl).sv rfl rfl (by first | rfl | omega) (by omega)) ?_
            clear hT; intro a hT
            refine Sx.st_take hT rfl rfl rfl rfl (Sx.x_fieldAddr hT rfl Try.fa44_1 rfl) ?_
            clear hT; intro a hT
            refine Sx.st_held hT rfl rfl rfl rfl hH (fun w' h' => Sx.y_loadS hT rfl Try.underlying28 Try.ti28 rfl (((((Hu.heldR 3 rfl h' Sx.off_No).ssn rfl).cs En.len hy).seg (i := 3) (k := 3) rfl)) (by rfl)) ?_
            clear hT; intro a hT
            refine Sx.st_take hT rfl rfl rfl rfl (Sx.x_neS hT rfl (by kernel_rfl) (Try.eq28 _ _ _ _ _ _) rfl rfl rfl) ?_
            clear hT; intro a hT
            refine Sx.st_take hT rfl rfl rfl rfl (Sx.x_pick_f hT rfl rfl rfl) ?_
            clear hT; intro a hT
            replace hT := hT.keep [179, 153, 15, 14, 147, 13, 12, 34, 8, 6, 7, 5, 4, 28, 3, 24, 21, 0] rfl
            clear Hu hH
            refine Sx.ser_calm ?_
            refine Sx.then_normal (hK79 _ _ ?_)
            clear hK79
            -- cond 12
            refine Sx.wp_if hT rfl (fun hc81 => ?_) (fun hc81 => ?_)
            · try simp only [decide_eq_true_eq, decide_eq_false_iff_not, Bool.not_eq_true', Bool.not_eq_false', Bool.not_eq_true, Bool.not_eq_false, Bool.and_eq_true, Bool.or_eq_false_iff, beq_iff_eq, bne_iff_ne, Int.not_lt, Int.not_le, ne_eq] at hc81
              have hmt : mt y.p x.p = false := by
                unfold mt
                refine decide_eq_false fun h9 => ?_
                have h8 := tn_iff.1 h9.1
                have h7 := stp_iff.1 h9.2
                simp_all [Fr.p, En.p]
              refine wp_exit ?_
              refine Sx.then_exit ?_
              refine Sx.block_exit ?_
              refine Sx.then_normal (hK77 _ _ ?_)
              clear hK77
              -- region 38 (law.go:138)
              refine Sx.wp_text [(0, .take), (1, .take), (2, .take)] rfl ?_
              refine Sx.st_take hT rfl rfl rfl rfl (Sx.x_move hT rfl rfl) ?_
              clear hT; intro a hT
              refine Sx.st_take hT rfl rfl rfl rfl ((fun w => Sx.x_add w hT rfl rfl rfl (Sx.wrap64 (by omega)))) ?_
              clear hT; intro a hT
              refine Sx.st_take hT rfl rfl rfl rfl (Sx.x_assign hT rfl rfl) ?_
              clear hT; intro a hT
              replace hT := hT.keep [15, 179, 153, 14, 147, 13, 12, 34, 8, 6, 7, 5, 4, 28, 3, 24, 21, 0] rfl
              refine Sx.ser_nil ?_
              refine Sx.then_normal ?_
              exact ⟨(k2 + 1, m), ⟨by show k2 + 1 ≤ _; omega, by show m = _; rw [cntM_step hx, hmt, hm]; rfl⟩, (hT.keep [15, 14, 147, 13, 12, 34, 8, 6, 7, 5, 4, 28, 3, 24, 21, 0] rfl), (H.keep [0, 1, 2, 3, 4, 5, 6, 7] rfl rfl), by show _ - (k2 + 1) < _ - k2; omega⟩
            · try simp only [decide_eq_true_eq, decide_eq_false_iff_not, Bool.not_eq_true', Bool.not_eq_false', Bool.not_eq_true, Bool.not_eq_false, Bool.and_eq_true, Bool.or_eq_false_iff, beq_iff_eq, bne_iff_ne, Int.not_lt, Int.not_le, ne_eq] at hc81
              have hmt : mt y.p x.p = true := by
                unfold mt
                refine decide_eq_true ⟨tn_iff.2 ?_, stp_iff.2 ?_⟩ <;> simp_all [Fr.p, En.p]
              refine wp_skip ?_
              refine Sx.then_normal (hK78 _ _ ?_)
              clear hK78
              refine wp_seq_k fun K82 hK82 => ?_
              -- region 40 (law.go:142)
              refine Sx.wp_text [(0, .take)] rfl ?_
              refine Sx.st_take hT rfl rfl rfl rfl (Sx.x_assign hT rfl rfl) ?_
              clear hT; intro a hT
              replace hT := hT.keep [16, 179, 153, 15, 14, 147, 13, 12, 34, 8, 6, 7, 5, 4, 28, 3, 24, 21, 0] rfl
              refine Sx.ser_nil ?_
              refine Sx.then_normal (hK82 _ _ ?_)
              clear hK82
              refine wp_block ?_
              -- loop 4
              refine Sx.wp_loopH (G := Nat × Nat) (fun ⟨j, m1⟩ => [(16, .int .i64 (j : Int)), (14, .int .i64 (m1 : Int))]) (fun ⟨j, m1⟩ => []) (fun ⟨j, m1⟩ => j ≤ x.ws.length ∧ m1 = m + j) (fun ⟨j, m1⟩ => x.ws.length - j) (0, m) (hT.keep [16, 14, 179, 153, 15, 147, 13, 12, 34, 8, 6, 7, 5, 4, 28, 3, 24, 21, 0] rfl) (H.keep [0, 1, 2, 3, 4, 5, 6, 7] rfl rfl) (⟨Nat.zero_le _, rfl⟩) ?_
              clear hT H
              rintro ⟨j, m1⟩ a w35 hJ hT H
              replace hT := hT.keep [16, 14, 179, 153, 15, 147, 13, 12, 34, 8, 6, 7, 5, 4, 28, 3, 24, 21, 0] rfl
              replace H := H.keep [0, 1, 2, 3, 4, 5, 6, 7] rfl rfl
              obtain ⟨hj, hm1⟩ := hJ
              refine wp_seq_k fun K83 hK83 => ?_
              refine wp_seq_k fun K84 hK84 => ?_
              -- region 41 (law.go:142)
              refine Sx.wp_text [(0, .take), (1, .take), (2, .take), (3, .take), (4, .take), (5, .run), (6, .take), (7, .take)] rfl ?_
              refine Sx.st_take hT rfl rfl rfl rfl (Sx.x_move hT rfl rfl) ?_
              clear hT; intro a hT
              refine Sx.st_take hT rfl rfl rfl rfl (Sx.x_move hT rfl rfl) ?_
              clear hT; intro a hT
              refine Sx.st_take hT rfl rfl rfl rfl (Sx.x_move hT rfl rfl) ?_
              clear hT; intro a hT
              refine Sx.st_take hT rfl rfl rfl rfl (Sx.x_index (k := k2) hT rfl Try.underlying29 Try.ti35 (H.row 2 rfl).sv rfl rfl (by first | rfl | omega) (by omega)) ?_
              clear hT; intro a hT
              refine Sx.st_take hT rfl rfl rfl rfl (Sx.x_fieldAddr hT rfl Try.fa35_4 rfl) ?_
              clear hT; intro a hT
              refine Sx.st_run hT rfl rfl rfl rfl (Sx.x_load1 hT rfl Try.fl33 rfl (((H.row 2 rfl).ssn rfl).cell (j := 8) Fr.len hx rfl)) ?_
              clear hT; intro a hT
              refine Sx.st_take hT rfl rfl rfl rfl (Sx.x_len_slice hT rfl rfl Try.underlying33 rfl) ?_
              clear hT; intro a hT
              refine Sx.st_take hT rfl rfl rfl rfl ((fun w => Sx.x_lt w hT rfl rfl rfl)) ?_
              clear hT; intro a hT
              replace hT := hT.keep [187, 16, 14, 179, 153, 15, 147, 13, 12, 34, 8, 6, 7, 5, 4, 28, 3, 24, 21, 0] rfl
              refine Sx.ser_nil ?_
              refine Sx.then_normal (hK84 _ _ ?_)
              clear hK84
              -- cond 13
              refine Sx.wp_if hT rfl (fun hc85 => ?_) (fun hc85 => ?_)
              · try simp only [decide_eq_true_eq, decide_eq_false_iff_not, Bool.not_eq_true', Bool.not_eq_false', Bool.not_eq_true, Bool.not_eq_false, Bool.and_eq_true, Bool.or_eq_false_iff, beq_iff_eq, bne_iff_ne, Int.not_lt, Int.not_le, ne_eq] at hc85
                obtain ⟨v, hv⟩ : ∃ o, x.ws[j]? = some o := ⟨_, List.getElem?_eq_getElem (by omega)⟩
                refine wp_skip ?_
                refine Sx.then_normal (hK83 _ _ ?_)
                clear hK83
                refine wp_seq_k fun K86 hK86 => ?_
                refine wp_block ?_
                refine wp_seq_k fun K87 hK87 => ?_
                refine wp_seq_k fun K88 hK88 => ?_
                -- region 43 (law.go:143)
                refine Sx.wp_draws (fun u => Sx.Ext (Sx.No) u) [(0, .take), (1, .take), (2, .take), (3, .take), (4, .held), (5, .take), (6, .take), (7, .take), (8, .take), (9, .held), (10, .take), (11, .take), (12, .held), (13, .run), (14, .take)] (by kernel_rfl) (by kernel_rfl) (fun u E _ => ?_)
                replace H := H.pure E; clear E
                have hH : Sx.Ext (Sx.No) u u := Sx.Ext.refl _ _
                have Hu := H
                refine Sx.st_take hT rfl rfl rfl rfl (Sx.x_move hT rfl rfl) ?_
                clear hT; intro a hT
                refine Sx.st_take hT rfl rfl rfl rfl (Sx.x_move hT rfl rfl) ?_
                clear hT; intro a hT
                refine Sx.st_take hT rfl rfl rfl rfl (Sx.x_index (k := k1) hT rfl Try.underlying30 Try.ti44 (H.row 3 rfl).sv rfl rfl (by first | rfl | omega) (by omega)) ?_
                clear hT; intro a hT
                refine Sx.st_take hT rfl rfl rfl rfl (Sx.x_fieldAddr hT rfl Try.fa44_2 rfl) ?_
                clear hT; intro a hT
                refine Sx.st_held hT rfl rfl rfl rfl hH (fun w' h' => Sx.x_load1 hT rfl Try.fl33 rfl (((Hu.heldR 3 rfl h' Sx.off_No).ssn rfl).cell (j := 6) En.len hy rfl)) ?_
                clear hT; intro a hT
                refine Sx.st_take hT rfl rfl rfl rfl (Sx.x_move hT rfl rfl) ?_
                clear hT; intro a hT
                refine Sx.st_take hT rfl rfl rfl rfl (Sx.x_move hT rfl rfl) ?_
                clear hT; intro a hT
                refine Sx.st_take hT rfl rfl rfl rfl (Sx.x_index (k := k2) hT rfl Try.underlying29 Try.ti35 (H.row 2 rfl).sv rfl rfl (by first | rfl | omega) (by omega)) ?_
                clear hT; intro a hT
                refine Sx.st_take hT rfl rfl rfl rfl (Sx.x_fieldAddr hT rfl Try.fa35_4 rfl) ?_
                clear hT; intro a hT
                refine Sx.st_held hT rfl rfl rfl rfl hH (fun w' h' => Sx.x_load1 hT rfl Try.fl33 rfl (((Hu.heldR 2 rfl h' Sx.off_No).ssn rfl).cell (j := 8) Fr.len hx rfl)) ?_
                clear hT; intro a hT
                refine Sx.st_take hT rfl rfl rfl rfl (Sx.x_move hT rfl rfl) ?_
                clear hT; intro a hT
                refine Sx.st_take hT rfl rfl rfl rfl (Sx.x_index (k := j) hT rfl Try.underlying33 Try.ti50 (RMx.at H.ext).sv rfl rfl (by first | rfl | omega) (by omega)) ?_
                clear hT; intro a hT
                refine Sx.st_held hT rfl rfl rfl rfl hH (fun w' h' => Sx.y_loadS hT rfl Try.underlying50 Try.ti50 rfl ((((RMx.at (Hu.ext.step h')).cs Wt.len hv).seg (i := 0) (k := 4) rfl)) (by rfl)) ?_
                clear hT; intro a hT
                refine Sx.st_call hT rfl rfl rfl rfl rfl Try.can14 rfl (writes_calls y.ws v (Row.ssn (xs := y.ws) (enc := Wt.cells) ((H.fam 4 rfl).row y hym) rfl) (by omega) hyr (hyin x hxm hmt v (List.mem_of_getElem? hv))) ?_
                rintro _ w36 ⟨rfl, E⟩
                refine ⟨_, rfl, ?_⟩
                clear hT; intro a hT
                replace H := H.pure E; clear E
                refine Sx.st_take hT rfl rfl rfl rfl (Sx.x_not hT rfl rfl) ?_
                clear hT; intro a hT
                replace hT := hT.keep [204, 187, 16, 14, 179, 153, 15, 147, 13, 12, 34, 8, 6, 7, 5, 4, 28, 3, 24, 21, 0] rfl
                clear Hu hH
                refine Sx.ser_calm ?_
                refine Sx.then_normal (hK88 _ _ ?_)
                clear hK88
                refine Sx.wp_if hT rfl (fun h => by cases h) (fun _ => ?_)
                refine wp_skip ?_
                refine Sx.then_normal (hK87 _ _ ?_)
                clear hK87
                -- region 45 (law.go:146)
                refine Sx.wp_text [(0, .take), (1, .take), (2, .take)] rfl ?_
                refine Sx.st_take hT rfl rfl rfl rfl (Sx.x_move hT rfl rfl) ?_
                clear hT; intro a hT
                refine Sx.st_take hT rfl rfl rfl rfl ((fun w => Sx.x_add w hT rfl rfl rfl (Sx.wrap64 (by omega)))) ?_
                clear hT; intro a hT
                refine Sx.st_take hT rfl rfl rfl rfl (Sx.x_assign hT rfl rfl) ?_
                clear hT; intro a hT
                replace hT := hT.keep [14, 204, 187, 16, 179, 153, 15, 147, 13, 12, 34, 8, 6, 7, 5, 4, 28, 3, 24, 21, 0] rfl
                refine Sx.ser_nil ?_
                refine Sx.block_normal ?_
                refine Sx.then_normal (hK86 _ _ ?_)
                clear hK86
                -- region 42 (law.go:142)
                refine Sx.wp_text [(0, .take), (1, .take), (2, .take)] rfl ?_
                refine Sx.st_take hT rfl rfl rfl rfl (Sx.x_move hT rfl rfl) ?_
                clear hT; intro a hT
                refine Sx.st_take hT rfl rfl rfl rfl ((fun w => Sx.x_add w hT rfl rfl rfl (Sx.wrap64 (by omega)))) ?_
                clear hT; intro a hT
                refine Sx.st_take hT rfl rfl rfl rfl (Sx.x_assign hT rfl rfl) ?_
                clear hT; intro a hT
                replace hT := hT.keep [16, 14, 204, 187, 179, 153, 15, 147, 13, 12, 34, 8, 6, 7, 5, 4, 28, 3, 24, 21, 0] rfl
                refine Sx.ser_nil ?_
                refine Sx.then_normal ?_
                exact ⟨(j + 1, m1 + 1), ⟨by show j + 1 ≤ _; omega, by show m1 + 1 = m + (j + 1); omega⟩, (hT.keep [16, 14, 179, 153, 15, 147, 13, 12, 34, 8, 6, 7, 5, 4, 28, 3, 24, 21, 0] rfl), (H.keep [0, 1, 2, 3, 4, 5, 6, 7] rfl rfl), by show _ - (j + 1) < _ - j; omega⟩
              · try simp only [decide_eq_true_eq, decide_eq_false_iff_not, Bool.not_eq_true', Bool.not_eq_false', Bool.not_eq_true, Bool.not_eq_false, Bool.and_eq_true, Bool.or_eq_false_iff, beq_iff_eq, bne_iff_ne, Int.not_lt, Int.not_le, ne_eq] at hc85
                refine wp_exit ?_
                refine Sx.then_exit ?_
                refine Sx.then_exit ?_
                refine Sx.block_exit ?_
                refine Sx.block_normal ?_
                refine Sx.then_normal (hK77 _ _ ?_)
                clear hK77
                -- region 38 (law.go:138)
                refine Sx.wp_text [(0, .take), (1, .take), (2, .take)] rfl ?_
                refine Sx.st_take hT rfl rfl rfl rfl (Sx.x_move hT rfl rfl) ?_
                clear hT; intro a hT
                refine Sx.st_take hT rfl rfl rfl rfl ((fun w => Sx.x_add w hT rfl rfl rfl (Sx.wrap64 (by omega)))) ?_
                clear hT; intro a hT
                refine Sx.st_take hT rfl rfl rfl rfl (Sx.x_assign hT rfl rfl) ?_
                clear hT; intro a hT
                replace hT := hT.keep [15, 187, 16, 14, 179, 153, 147, 13, 12, 34, 8, 6, 7, 5, 4, 28, 3, 24, 21, 0] rfl
                refine Sx.ser_nil ?_
                refine Sx.then_normal ?_
                exact ⟨(k2 + 1, m1), ⟨by show k2 + 1 ≤ _; omega, by show m1 = _; rw [cntM_step hx, hmt, if_pos rfl]; omega⟩, (hT.keep [15, 14, 147, 13, 12, 34, 8, 6, 7, 5, 4, 28, 3, 24, 21, 0] rfl), (H.keep [0, 1, 2, 3, 4, 5, 6, 7] rfl rfl), by show _ - (k2 + 1) < _ - k2; omega⟩
        · try simp only [decide_eq_true_eq, decide_eq_false_iff_not, Bool.not_eq_true', Bool.not_eq_false', Bool.not_eq_true, Bool.not_eq_false, Bool.and_eq_true, Bool.or_eq_false_iff, beq_iff_eq, bne_iff_ne, Int.not_lt, Int.not_le, ne_eq] at hc76
          have hkI : k2 = I.length := by omega
          rw [hkI, ← hyc] at hm
          refine wp_exit ?_
          refine Sx.then_exit ?_
          refine Sx.then_exit ?_
          refine Sx.block_exit ?_
          refine Sx.then_normal (hK72 _ _ ?_)
          clear hK72
          refine wp_seq_k fun K89 hK89 => ?_
          refine wp_seq_k fun K90 hK90 => ?_
          -- region 46 (law.go:149)
          refine Sx.wp_text [(0, .take)] rfl ?_
          refine Sx.st_take hT rfl rfl rfl rfl (Sx.x_assign hT rfl rfl) ?_
          clear hT; intro a hT
          replace hT := hT.keep [17, 153, 15, 14, 147, 13, 12, 34, 8, 6, 7, 5, 4, 28, 3, 24, 21, 0] rfl
          refine Sx.ser_nil ?_
          refine Sx.then_normal (hK90 _ _ ?_)
          clear hK90
          refine wp_block ?_
          -- loop 5
          refine Sx.wp_loopH (G := Nat) (fun k => [(17, .int .i64 (k : Int))]) (fun k => []) (fun k => 1 ≤ k ∧ k ≤ y.ws.length) (fun k => y.ws.length - k) 1 (hT.keep [17, 153, 15, 14, 147, 13, 12, 34, 8, 6, 7, 5, 4, 28, 3, 24, 21, 0] rfl) (H.keep [0, 1, 2, 3, 4, 5, 6, 7] rfl rfl) (⟨Nat.le_refl _, hy1⟩) ?_
          clear hT H
          rintro k a w37 hJ hT H
          replace hT := hT.keep [17, 153, 15, 14, 147, 13, 12, 34, 8, 6, 7, 5, 4, 28, 3, 24, 21, 0] rfl
          replace H := H.keep [0, 1, 2, 3, 4, 5, 6, 7] rfl rfl
          obtain ⟨hk0, hk⟩ := hJ
          refine wp_seq_k fun K91 hK91 => ?_
          refine wp_seq_k fun K92 hK92 => ?_
          -- region 47 (law.go:149)
          refine Sx.wp_text [(0, .take), (1, .take), (2, .take), (3, .take), (4, .take), (5, .run), (6, .take), (7, .take)] rfl ?_
          refine Sx.st_take hT rfl rfl rfl rfl (Sx.x_move hT rfl rfl) ?_
          clear hT; intro a hT
          refine Sx.st_take hT rfl rfl rfl rfl (Sx.x_move hT rfl rfl) ?_
          clear hT; intro a hT
          refine Sx.st_take hT rfl rfl rfl rfl (Sx.x_move hT rfl rfl) ?_
          clear hT; intro a hT
          refine Sx.st_take hT rfl rfl rfl rfl (Sx.x_index (k := k1) hT rfl Try.underlying30 Try.ti44 (H.row 3 rfl).sv rfl rfl (by first | rfl | omega) (by omega)) ?_
          clear hT; intro a hT
          refine Sx.st_take hT rfl rfl rfl rfl (Sx.x_fieldAddr hT rfl Try.fa44_2 rfl) ?_
          clear hT; intro a hT
          refine Sx.st_run hT rfl rfl rfl rfl (Sx.x_load1 hT rfl Try.fl33 rfl (((H.row 3 rfl).ssn rfl).cell (j := 6) En.len hy rfl)) ?_
          clear hT; intro a hT
          refine Sx.st_take hT rfl rfl rfl rfl (Sx.x_len_slice hT rfl rfl Try.underlying33 rfl) ?_
          clear hT; intro a hT
          refine Sx.st_take hT rfl rfl rfl rfl ((fun w => Sx.x_lt w hT rfl rfl rfl)) ?_
          clear hT; intro a hT
          replace hT := hT.keep [214, 17, 153, 15, 14, 147, 13, 12, 34, 8, 6, 7, 5, 4, 28, 3, 24, 21, 0] rfl
          refine Sx.ser_nil ?_
          refine Sx.then_normal (hK92 _ _ ?_)
          clear hK92
          -- cond 15
          refine Sx.wp_if hT rfl (fun hc93 => ?_) (fun hc93 => ?_)
          · try simp only [decide_eq_true_eq, decide_eq_false_iff_not, Bool.not_eq_true', Bool.not_eq_false', Bool.not_eq_true, Bool.not_eq_false, Bool.and_eq_true, Bool.or_eq_false_iff, beq_iff_eq, bne_iff_ne, Int.not_lt, Int.not_le, ne_eq] at hc93
            obtain ⟨v1, hv1⟩ : ∃ o, y.ws[k]? = some o := ⟨_, List.getElem?_eq_getElem (by omega)⟩
            obtain ⟨v0, hv0⟩ : ∃ o, y.ws[k - 1]? = some o := ⟨_, List.getElem?_eq_getElem (by omega)⟩
            have hvs : slt v0.key v1.key := by
              obtain ⟨g1, rfl⟩ := List.getElem?_eq_some_iff.1 hv1
              obtain ⟨g0, rfl⟩ := List.getElem?_eq_some_iff.1 hv0
              exact List.pairwise_iff_getElem.1 hyr (k - 1) k g0 g1 (by omega)
            refine wp_skip ?_
            refine Sx.then_normal (hK91 _ _ ?_)
            clear hK91
            refine wp_seq_k fun K94 hK94 => ?_
            refine wp_block ?_
            refine wp_seq_k fun K95 hK95 => ?_
            -- region 49 (law.go:150)
            refine Sx.wp_draws (fun u => Sx.Ext (Sx.No) u) [(0, .take), (1, .take), (2, .take), (3, .take), (4, .held), (5, .take), (6, .take), (7, .take), (8, .held), (9, .take), (10, .take), (11, .take), (12, .take), (13, .held), (14, .take), (15, .take), (16, .take), (17, .take), (18, .held), (19, .take)] (by kernel_rfl) (by kernel_rfl) (fun u E _ => ?_)
            replace H := H.pure E; clear E
            have hH : Sx.Ext (Sx.No) u u := Sx.Ext.refl _ _
            have Hu := H
            refine Sx.st_take hT rfl rfl rfl rfl (Sx.x_move hT rfl rfl) ?_
            clear hT; intro a hT
            refine Sx.st_take hT rfl rfl rfl rfl (Sx.x_move hT rfl rfl) ?_
            clear hT; intro a hT
            refine Sx.st_take hT rfl rfl rfl rfl (Sx.x_index (k := k1) hT rfl Try.underlying30 Try.ti44 (H.row 3 rfl).sv rfl rfl (by first | rfl | omega) (by omega)) ?_
            clear hT; intro a hT
            refine Sx.st_take hT rfl rfl rfl rfl (Sx.x_fieldAddr hT rfl Try.fa44_2 rfl) ?_
            clear hT; intro a hT
            refine Sx.st_held hT rfl rfl rfl rfl hH (fun w' h' => Sx.x_load1 hT rfl Try.fl33 rfl (((Hu.heldR 3 rfl h' Sx.off_No).ssn rfl).cell (j := 6) En.len hy rfl)) ?_
            clear hT; intro a hT
            refine Sx.st_take hT rfl rfl rfl rfl (Sx.x_move hT rfl rfl) ?_
            clear hT; intro a hT
            refine Sx.st_take hT rfl rfl rfl rfl (Sx.x_index (k := k) hT rfl Try.underlying33 Try.ti50 (Row.ssn (xs := y.ws) (enc := Wt.cells) ((H.fam 4 rfl).row y hym) rfl).sv rfl rfl (by first | rfl | omega) (by omega)) ?_
            clear hT; intro a hT
            refine Sx.st_take hT rfl rfl rfl rfl (Sx.x_fieldAddr hT rfl Try.fa50_0 rfl) ?_
            clear hT; intro a hT
            refine Sx.st_held hT rfl rfl rfl rfl hH (fun w' h' => Sx.x_load1 hT rfl Try.fl9 rfl ((Row.ssn (xs := y.ws) (enc := Wt.cells) ((Hu.heldF 4 rfl h' (fun _ _ _ h => h)).row y hym) rfl).cell (j := 0) Wt.len hv1 rfl)) ?_
            clear hT; intro a hT
            refine Sx.st_take hT rfl rfl rfl rfl (Sx.x_move hT rfl rfl) ?_
            clear hT; intro a hT
            refine Sx.st_take hT rfl rfl rfl rfl (Sx.x_move hT rfl rfl) ?_
            clear hT; intro a hT
            refine Sx.st_take hT rfl rfl rfl rfl (Sx.x_index (k := k1) hT rfl Try.underlying30 Try.ti44 (H.row 3 rfl).sv rfl rfl (by first | rfl | omega) (by omega)) ?_
            clear hT; intro a hT
            refine Sx.st_take hT rfl rfl rfl rfl (Sx.x_fieldAddr hT rfl Try.fa44_2 rfl) ?_
            clear hT; intro a hT
            refine Sx.st_held hT rfl rfl rfl rfl hH (fun w' h' => Sx.x_load1 hT rfl Try.fl33 rfl (((Hu.heldR 3 rfl h' Sx.off_No).ssn rfl).cell (j := 6) En.len hy rfl)) ?_
            clear hT; intro a hT
            refine Sx.st_take hT rfl rfl rfl rfl (Sx.x_move hT rfl rfl) ?_
            clear hT; intro a hT
            refine Sx.st_take hT rfl rfl rfl rfl ((fun w => Sx.x_sub w hT rfl rfl rfl (Sx.wrap64 (by omega)))) ?_
            clear hT; intro a hT
            refine Sx.st_take hT rfl rfl rfl rfl (Sx.x_index (k := k - 1) hT rfl Try.underlying33 Try.ti50 (Row.ssn (xs := y.ws) (enc := Wt.cells) ((H.fam 4 rfl).row y hym) rfl).sv rfl rfl (by first | rfl | omega) (by omega)) ?_
            clear hT; intro a hT
            refine Sx.st_take hT rfl rfl rfl rfl (Sx.x_fieldAddr hT rfl Try.fa50_0 rfl) ?_
            clear hT; intro a hT
            refine Sx.st_held hT rfl rfl rfl rfl hH (fun w' h' => Sx.x_load1 hT rfl Try.fl9 rfl ((Row.ssn (xs := y.ws) (enc := Wt.cells) ((Hu.heldF 4 rfl h' (fun _ _ _ h => h)).row y hym) rfl).cell (j := 0) Wt.len hv0 rfl)) ?_
            clear hT; intro a hT
            refine Sx.st_take hT rfl rfl rfl rfl ((fun w => Sx.x_strle w hT rfl rfl rfl)) ?_
            clear hT; intro a hT
            replace hT := hT.keep [236, 214, 17, 153, 15, 14, 147, 13, 12, 34, 8, 6, 7, 5, 4, 28, 3, 24, 21, 0] rfl
            clear Hu hH
            refine Sx.ser_calm ?_
            refine Sx.then_normal (hK95 _ _ ?_)
            clear hK95
            -- cond 16
            refine Sx.wp_if hT rfl (fun hc96 => ?_) (fun hc96 => ?_)
            · exfalso
              try simp only [decide_eq_true_eq, decide_eq_false_iff_not, Bool.not_eq_true', Bool.not_eq_false', Bool.not_eq_true, Bool.not_eq_false, Bool.and_eq_true, Bool.or_eq_false_iff, beq_iff_eq, bne_iff_ne, Int.not_lt, Int.not_le, ne_eq] at hc96
              have h9 : Op.bytesLess v0.key v1.key = true := hvs; rw [h9] at hc96; cases hc96
            · try simp only [decide_eq_true_eq, decide_eq_false_iff_not, Bool.not_eq_true', Bool.not_eq_false', Bool.not_eq_true, Bool.not_eq_false, Bool.and_eq_true, Bool.or_eq_false_iff, beq_iff_eq, bne_iff_ne, Int.not_lt, Int.not_le, ne_eq] at hc96
              refine wp_skip ?_
              refine Sx.block_normal ?_
              refine Sx.then_normal (hK94 _ _ ?_)
              clear hK94
              -- region 48 (law.go:149)
              refine Sx.wp_text [(0, .take), (1, .take), (2, .take)] rfl ?_
              refine Sx.st_take hT rfl rfl rfl rfl (Sx.x_move hT rfl rfl) ?_
              clear hT; intro a hT
              refine Sx.st_take hT rfl rfl rfl rfl ((fun w => Sx.x_add w hT rfl rfl rfl (Sx.wrap64 (by omega)))) ?_
              clear hT; intro a hT
              refine Sx.st_take hT rfl rfl rfl rfl (Sx.x_assign hT rfl rfl) ?_
              clear hT; intro a hT
              replace hT := hT.keep [17, 236, 214, 153, 15, 14, 147, 13, 12, 34, 8, 6, 7, 5, 4, 28, 3, 24, 21, 0] rfl
              refine Sx.ser_nil ?_
              refine Sx.then_normal ?_
              exact ⟨k + 1, ⟨by omega, by omega⟩, (hT.keep [17, 153, 15, 14, 147, 13, 12, 34, 8, 6, 7, 5, 4, 28, 3, 24, 21, 0] rfl), (H.keep [0, 1, 2, 3, 4, 5, 6, 7] rfl rfl), by omega⟩
          · try simp only [decide_eq_true_eq, decide_eq_false_iff_not, Bool.not_eq_true', Bool.not_eq_false', Bool.not_eq_true, Bool.not_eq_false, Bool.and_eq_true, Bool.or_eq_false_iff, beq_iff_eq, bne_iff_ne, Int.not_lt, Int.not_le, ne_eq] at hc93
            refine wp_exit ?_
            refine Sx.then_exit ?_
            refine Sx.then_exit ?_
            refine Sx.block_exit ?_
            refine Sx.then_normal (hK89 _ _ ?_)
            clear hK89
            refine wp_seq_k fun K97 hK97 => ?_
            refine wp_seq_k fun K98 hK98 => ?_
            -- region 51 (law.go:154)
            refine Sx.wp_text [(0, .take), (1, .take), (2, .take), (3, .take), (4, .take), (5, .run), (6, .take), (7, .take), (8, .take), (9, .take), (10, .take), (11, .take)] rfl ?_
            refine Sx.st_take hT rfl rfl rfl rfl (Sx.x_move hT rfl rfl) ?_
            clear hT; intro a hT
            refine Sx.st_take hT rfl rfl rfl rfl (Sx.x_move hT rfl rfl) ?_
            clear hT; intro a hT
            refine Sx.st_take hT rfl rfl rfl rfl (Sx.x_move hT rfl rfl) ?_
            clear hT; intro a hT
            refine Sx.st_take hT rfl rfl rfl rfl (Sx.x_index (k := k1) hT rfl Try.underlying30 Try.ti44 (H.row 3 rfl).sv rfl rfl (by first | rfl | omega) (by omega)) ?_
            clear hT; intro a hT
            refine Sx.st_take hT rfl rfl rfl rfl (Sx.x_fieldAddr hT rfl Try.fa44_2 rfl) ?_
            clear hT; intro a hT
            refine Sx.st_run hT rfl rfl rfl rfl (Sx.x_load1 hT rfl Try.fl33 rfl (((H.row 3 rfl).ssn rfl).cell (j := 6) En.len hy rfl)) ?_
            clear hT; intro a hT
            refine Sx.st_take hT rfl rfl rfl rfl (Sx.x_len_slice hT rfl rfl Try.underlying33 rfl) ?_
            clear hT; intro a hT
            refine Sx.st_take hT rfl rfl rfl rfl ((fun w => Sx.x_ne w hT rfl rfl rfl)) ?_
            clear hT; intro a hT
            refine Sx.st_take hT rfl rfl rfl rfl (Sx.x_move hT rfl rfl) ?_
            clear hT; intro a hT
            -- guard (51, 8)
            refine Sx.Sl.two hT 245 rfl (fun hc99 hT => ?_) (fun hc99 hT => ?_)
            · exfalso
              try simp only [decide_eq_true_eq, decide_eq_false_iff_not, Bool.not_eq_true', Bool.not_eq_false', Bool.not_eq_true, Bool.not_eq_false, Bool.and_eq_true, Bool.or_eq_false_iff, beq_iff_eq, bne_iff_ne, Int.not_lt, Int.not_le, ne_eq] at hc99
              first | omega | (simp at hc99; omega)
            · try simp only [decide_eq_true_eq, decide_eq_false_iff_not, Bool.not_eq_true', Bool.not_eq_false', Bool.not_eq_true, Bool.not_eq_false, Bool.and_eq_true, Bool.or_eq_false_iff, beq_iff_eq, bne_iff_ne, Int.not_lt, Int.not_le, ne_eq] at hc99
              refine Sx.st_take hT rfl rfl rfl rfl (Sx.x_move hT rfl rfl) ?_
              clear hT; intro a hT
              refine Sx.st_take hT rfl rfl rfl rfl ((fun w => Sx.x_eq w hT rfl rfl rfl)) ?_
              clear hT; intro a hT
              refine Sx.st_take hT rfl rfl rfl rfl (Sx.x_pick_f hT rfl rfl rfl) ?_
              clear hT; intro a hT
              replace hT := hT.keep [248, 214, 17, 153, 15, 14, 147, 13, 12, 34, 8, 6, 7, 5, 4, 28, 3, 24, 21, 0] rfl
              refine Sx.ser_nil ?_
              refine Sx.then_normal (hK98 _ _ ?_)
              clear hK98
              -- cond 17
              refine Sx.wp_if hT rfl (fun hc100 => ?_) (fun hc100 => ?_)
              · exfalso
                try simp only [decide_eq_true_eq, decide_eq_false_iff_not, Bool.not_eq_true', Bool.not_eq_false', Bool.not_eq_true, Bool.not_eq_false, Bool.and_eq_true, Bool.or_eq_false_iff, beq_iff_eq, bne_iff_ne, Int.not_lt, Int.not_le, ne_eq] at hc100
                first | omega | (simp at hc100; omega)
              · try simp only [decide_eq_true_eq, decide_eq_false_iff_not, Bool.not_eq_true', Bool.not_eq_false', Bool.not_eq_true, Bool.not_eq_false, Bool.and_eq_true, Bool.or_eq_false_iff, beq_iff_eq, bne_iff_ne, Int.not_lt, Int.not_le, ne_eq] at hc100
                refine wp_skip ?_
                refine Sx.then_normal (hK97 _ _ ?_)
                clear hK97
                -- region 53 (law.go:157)
                refine Sx.wp_text [(0, .take), (1, .take), (2, .take), (3, .take)] rfl ?_
                refine Sx.st_take hT rfl rfl rfl rfl (Sx.x_move hT rfl rfl) ?_
                clear hT; intro a hT
                refine Sx.st_take hT rfl rfl rfl rfl (Sx.x_move hT rfl rfl) ?_
                clear hT; intro a hT
                refine Sx.st_take hT rfl rfl rfl rfl ((fun w => Sx.x_add w hT rfl rfl rfl (Sx.wrap64 (by omega)))) ?_
                clear hT; intro a hT
                refine Sx.st_take hT rfl rfl rfl rfl (Sx.x_assign hT rfl rfl) ?_
                clear hT; intro a hT
                replace hT := hT.keep [12, 248, 214, 17, 153, 15, 14, 147, 13, 34, 8, 6, 7, 5, 4, 28, 3, 24, 21, 0] rfl
                refine Sx.ser_nil ?_
                refine Sx.block_normal ?_
                refine Sx.then_normal (hK70 _ _ ?_)
                clear hK70
                -- region 34 (law.go:136)
                refine Sx.wp_text [(0, .take), (1, .take), (2, .take)] rfl ?_
                refine Sx.st_take hT rfl rfl rfl rfl (Sx.x_move hT rfl rfl) ?_
                clear hT; intro a hT
                refine Sx.st_take hT rfl rfl rfl rfl ((fun w => Sx.x_add w hT rfl rfl rfl (Sx.wrap64 (by omega)))) ?_
                clear hT; intro a hT
                refine Sx.st_take hT rfl rfl rfl rfl (Sx.x_assign hT rfl rfl) ?_
                clear hT; intro a hT
                replace hT := hT.keep [13, 12, 248, 214, 17, 153, 15, 14, 147, 34, 8, 6, 7, 5, 4, 28, 3, 24, 21, 0] rfl
                refine Sx.ser_nil ?_
                refine Sx.then_normal ?_
                exact ⟨(k1 + 1, n + m), ⟨by show k1 + 1 ≤ _; omega, by show n + m = _; rw [sumN_snoc _ hy, ← hn]; omega⟩, (hT.keep [13, 12, 34, 8, 6, 7, 5, 4, 28, 3, 24, 21, 0] rfl), (H.keep [0, 1, 2, 3, 4, 5, 6, 7] rfl rfl), by show _ - (k1 + 1) < _ - k1; omega⟩
      · try simp only [decide_eq_true_eq, decide_eq_false_iff_not, Bool.not_eq_true', Bool.not_eq_false', Bool.not_eq_true, Bool.not_eq_false, Bool.and_eq_true, Bool.or_eq_false_iff, beq_iff_eq, bne_iff_ne, Int.not_lt, Int.not_le, ne_eq] at hc69
        have hkO : k1 = O.length := by omega
        rw [hkO, List.take_length] at hn
        refine wp_exit ?_
        refine Sx.then_exit ?_
        refine Sx.then_exit ?_
        refine Sx.block_exit ?_
        refine Sx.then_normal (hK65 _ _ ?_)
        clear hK65
        refine wp_seq_k fun K101 hK101 => ?_
        -- region 54 (law.go:159)
        refine Sx.wp_text [(0, .take)] rfl ?_
        refine Sx.st_take hT rfl rfl rfl rfl (Sx.x_assign hT rfl rfl) ?_
        clear hT; intro a hT
        replace hT := hT.keep [18, 147, 13, 12, 34, 8, 6, 7, 5, 4, 28, 3, 24, 21, 0] rfl
        refine Sx.ser_nil ?_
        refine Sx.then_normal (hK101 _ _ ?_)
        clear hK101
        refine wp_seq_k fun K102 hK102 => ?_
        refine wp_seq_k fun K103 hK103 => ?_
        -- region 55 (law.go:160)
        refine Sx.wp_text [(0, .take)] rfl ?_
        refine Sx.st_take hT rfl rfl rfl rfl (Sx.x_assign hT rfl rfl) ?_
        clear hT; intro a hT
        replace hT := hT.keep [19, 18, 147, 13, 12, 34, 8, 6, 7, 5, 4, 28, 3, 24, 21, 0] rfl
        refine Sx.ser_nil ?_
        refine Sx.then_normal (hK103 _ _ ?_)
        clear hK103
        refine wp_block ?_
        -- loop 6
        refine Sx.wp_loopH (G := Nat × Nat) (fun ⟨k2, a9⟩ => [(19, .int .i64 (k2 : Int)), (18, .int .i64 (a9 : Int))]) (fun ⟨k2, a9⟩ => []) (fun ⟨k2, a9⟩ => k2 ≤ I.length ∧ a9 = sumN (fun x => x.ws.length) (I.take k2)) (fun ⟨k2, a9⟩ => I.length - k2) (0, 0) (hT.keep [19, 18, 147, 13, 12, 34, 8, 6, 7, 5, 4, 28, 3, 24, 21, 0] rfl) (H.keep [0, 1, 2, 3, 4, 5, 6, 7] rfl rfl) (⟨Nat.zero_le _, (by rw [List.take_zero]; rfl)⟩) ?_
        clear hT H
        rintro ⟨k2, a9⟩ a w38 hJ hT H
        replace hT := hT.keep [19, 18, 147, 13, 12, 34, 8, 6, 7, 5, 4, 28, 3, 24, 21, 0] rfl
        replace H := H.keep [0, 1, 2, 3, 4, 5, 6, 7] rfl rfl
        obtain ⟨hk2, ha9⟩ := hJ
        have hab := sum_tk (fun x : Fr => x.ws.length) I k2
        refine wp_seq_k fun K104 hK104 => ?_
        refine wp_seq_k fun K105 hK105 => ?_
        -- region 56 (law.go:160)
        refine Sx.wp_text [(0, .take), (1, .take), (2, .take), (3, .take)] rfl ?_
        refine Sx.st_take hT rfl rfl rfl rfl (Sx.x_move hT rfl rfl) ?_
        clear hT; intro a hT
        refine Sx.st_take hT rfl rfl rfl rfl (Sx.x_move hT rfl rfl) ?_
        clear hT; intro a hT
        refine Sx.st_take hT rfl rfl rfl rfl (Sx.x_len_slice hT rfl rfl Try.underlying29 rfl) ?_
        clear hT; intro a hT
        refine Sx.st_take hT rfl rfl rfl rfl ((fun w => Sx.x_lt w hT rfl rfl rfl)) ?_
        clear hT; intro a hT
        replace hT := hT.keep [255, 19, 18, 147, 13, 12, 34, 8, 6, 7, 5, 4, 28, 3, 24, 21, 0] rfl
        refine Sx.ser_nil ?_
        refine Sx.then_normal (hK105 _ _ ?_)
        clear hK105
        -- cond 18
        refine Sx.wp_if hT rfl (fun hc106 => ?_) (fun hc106 => ?_)
        · try simp only [decide_eq_true_eq, decide_eq_false_iff_not, Bool.not_eq_true', Bool.not_eq_false', Bool.not_eq_true, Bool.not_eq_false, Bool.and_eq_true, Bool.or_eq_false_iff, beq_iff_eq, bne_iff_ne, Int.not_lt, Int.not_le, ne_eq] at hc106
          obtain ⟨x, hx⟩ : ∃ o, I[k2]? = some o := ⟨_, List.getElem?_eq_getElem (by omega)⟩
          have hxb := hI16 x (List.mem_of_getElem? hx)
          refine wp_skip ?_
          refine Sx.then_normal (hK104 _ _ ?_)
          clear hK104
          refine wp_seq_k fun K107 hK107 => ?_
          refine wp_block ?_
          -- region 58 (law.go:161)
          refine Sx.wp_text [(0, .take), (1, .take), (2, .take), (3, .take), (4, .take), (5, .run), (6, .take), (7, .take), (8, .take)] rfl ?_
          refine Sx.st_take hT rfl rfl rfl rfl (Sx.x_move hT rfl rfl) ?_
          clear hT; intro a hT
          refine Sx.st_take hT rfl rfl rfl rfl (Sx.x_move hT rfl rfl) ?_
          clear hT; intro a hT
          refine Sx.st_take hT rfl rfl rfl rfl (Sx.x_move hT rfl rfl) ?_
          clear hT; intro a hT
          refine Sx.st_take hT rfl rfl rfl rfl (Sx.x_index (k := k2) hT rfl Try.underlying29 Try.ti35 (H.row 2 rfl).sv rfl rfl (by first | rfl | omega) (by omega)) ?_
          clear hT; intro a hT
          refine Sx.st_take hT rfl rfl rfl rfl (Sx.x_fieldAddr hT rfl Try.fa35_4 rfl) ?_
          clear hT; intro a hT
          refine Sx.st_run hT rfl rfl rfl rfl (Sx.x_load1 hT rfl Try.fl33 rfl (((H.row 2 rfl).ssn rfl).cell (j := 8) Fr.len hx rfl)) ?_
          clear hT; intro a hT
          refine Sx.st_take hT rfl rfl rfl rfl (Sx.x_len_slice hT rfl rfl Try.underlying33 rfl) ?_
          clear hT; intro a hT
          refine Sx.st_take hT rfl rfl rfl rfl ((fun w => Sx.x_add w hT rfl rfl rfl (Sx.wrap64 (by omega)))) ?_
          clear hT; intro a hT
          refine Sx.st_take hT rfl rfl rfl rfl (Sx.x_assign hT rfl rfl) ?_
          clear hT; intro a hT
          replace hT := hT.keep [18, 255, 19, 147, 13, 12, 34, 8, 6, 7, 5, 4, 28, 3, 24, 21, 0] rfl
          refine Sx.ser_nil ?_
          refine Sx.block_normal ?_
          refine Sx.then_normal (hK107 _ _ ?_)
          clear hK107
          -- region 57 (law.go:160)
          refine Sx.wp_text [(0, .take), (1, .take), (2, .take)] rfl ?_
          refine Sx.st_take hT rfl rfl rfl rfl (Sx.x_move hT rfl rfl) ?_
          clear hT; intro a hT
          refine Sx.st_take hT rfl rfl rfl rfl ((fun w => Sx.x_add w hT rfl rfl rfl (Sx.wrap64 (by omega)))) ?_
          clear hT; intro a hT
          refine Sx.st_take hT rfl rfl rfl rfl (Sx.x_assign hT rfl rfl) ?_
          clear hT; intro a hT
          replace hT := hT.keep [19, 18, 255, 147, 13, 12, 34, 8, 6, 7, 5, 4, 28, 3, 24, 21, 0] rfl
          refine Sx.ser_nil ?_
          refine Sx.then_normal ?_
          exact ⟨(k2 + 1, a9 + x.ws.length), ⟨by show k2 + 1 ≤ _; omega, by show a9 + _ = _; rw [sumN_snoc _ hx, ← ha9]⟩, (hT.keep [19, 18, 147, 13, 12, 34, 8, 6, 7, 5, 4, 28, 3, 24, 21, 0] rfl), (H.keep [0, 1, 2, 3, 4, 5, 6, 7] rfl rfl), by show _ - (k2 + 1) < _ - k2; omega⟩
        · try simp only [decide_eq_true_eq, decide_eq_false_iff_not, Bool.not_eq_true', Bool.not_eq_false', Bool.not_eq_true, Bool.not_eq_false, Bool.and_eq_true, Bool.or_eq_false_iff, beq_iff_eq, bne_iff_ne, Int.not_lt, Int.not_le, ne_eq] at hc106
          have hkI : k2 = I.length := by omega
          rw [hkI, List.take_length] at ha9
          refine wp_exit ?_
          refine Sx.then_exit ?_
          refine Sx.then_exit ?_
          refine Sx.block_exit ?_
          refine Sx.then_normal (hK102 _ _ ?_)
          clear hK102
          refine wp_seq_k fun K108 hK108 => ?_
          -- region 59 (law.go:163)
          refine Sx.wp_text [(0, .run), (1, .take), (2, .take), (3, .take), (4, .take), (5, .take), (6, .take), (7, .take), (8, .run), (9, .take), (10, .take), (11, .take)] rfl ?_
          refine Sx.st_call hT rfl rfl rfl rfl rfl Try.can7 rfl (first_calls _) ?_
          rintro _ w39 ⟨rfl, E⟩
          refine ⟨_, rfl, ?_⟩
          clear hT; intro a hT
          replace H := H.pure E; clear E
          refine Sx.st_take hT rfl rfl rfl rfl (Sx.x_move hT rfl rfl) ?_
          clear hT; intro a hT
          refine Sx.st_take hT rfl rfl rfl rfl (Sx.x_move hT rfl rfl) ?_
          clear hT; intro a hT
          refine Sx.st_take hT rfl rfl rfl rfl (Sx.x_move hT rfl rfl) ?_
          clear hT; intro a hT
          refine Sx.st_take hT rfl rfl rfl rfl ((fun w => Sx.x_eq w hT rfl rfl rfl)) ?_
          clear hT; intro a hT
          refine Sx.st_take hT rfl rfl rfl rfl (Sx.x_pick_t hT rfl rfl rfl) ?_
          clear hT; intro a hT
          refine Sx.st_take hT rfl rfl rfl rfl (Sx.x_move hT rfl rfl) ?_
          clear hT; intro a hT
          -- guard (59, 6)
          refine Sx.Sl.two hT 272 rfl (fun hc109 hT => ?_) (fun hc109 hT => ?_)
          · try simp only [decide_eq_true_eq, decide_eq_false_iff_not, Bool.not_eq_true', Bool.not_eq_false', Bool.not_eq_true, Bool.not_eq_false, Bool.and_eq_true, Bool.or_eq_false_iff, beq_iff_eq, bne_iff_ne, Int.not_lt, Int.not_le, ne_eq] at hc109
            refine Sx.st_take hT rfl rfl rfl rfl (Sx.x_move hT rfl rfl) ?_
            clear hT; intro a hT
            refine Sx.st_call hT rfl rfl rfl rfl rfl Try.can15 rfl (Len_calls ([] : List Fr) (H.blk 5 rfl)) ?_
            rintro _ w40 ⟨rfl, E⟩
            refine ⟨_, rfl, ?_⟩
            clear hT; intro a hT
            replace H := H.pure E; clear E
            refine Sx.st_take hT rfl rfl rfl rfl ((fun w => Sx.x_eq w hT rfl rfl rfl)) ?_
            clear hT; intro a hT
            refine Sx.st_take hT rfl rfl rfl rfl (Sx.x_pick_t hT rfl rfl rfl) ?_
            clear hT; intro a hT
            refine Sx.st_take hT rfl rfl rfl rfl (Sx.x_assign hT rfl rfl) ?_
            clear hT; intro a hT
            replace hT := hT.keep [2, 255, 19, 18, 147, 13, 12, 34, 8, 6, 7, 5, 4, 28, 3, 24, 21, 0] rfl
            refine Sx.ser_nil ?_
            refine Sx.then_normal (hK108 _ _ ?_)
            clear hK108
            refine wp_ret ?_
            refine Sx.done1 (fn := Try.f3) hT rfl (.tmp (hT.get 2 _ rfl)) ?_
            exact ⟨ret_b (by simp), H.ext⟩
          · exfalso
            try simp only [decide_eq_true_eq, decide_eq_false_iff_not, Bool.not_eq_true', Bool.not_eq_false', Bool.not_eq_true, Bool.not_eq_false, Bool.and_eq_true, Bool.or_eq_false_iff, beq_iff_eq, bne_iff_ne, Int.not_lt, Int.not_le, ne_eq] at hc109
            first | omega | (simp at hc109; omega)

end Go.Proofs.Ythhdoeflafakaaa
