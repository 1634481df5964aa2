/- Walks: symMerge. -/
import Derived.Test.YtpggijfpkgglmaaA1
set_option linter.unusedSimpArgs false
set_option linter.unusedVariables false
namespace Go.Proofs.Ytpggijfpkgglmaa
open Sx
theorem Try.can97 : Sx.Can Try.prog 97 := ⟨_, Try.func97, by kernel_rfl, rfl⟩
theorem get_in {α : Type} {P A Q : List α} {t k : Nat} {z : α} (h : A[t]? = some z) (hk : k = P.length + t) : (P ++ A ++ Q)[k]? = some z := by
  subst hk
  have ht := (List.getElem?_eq_some_iff.1 h).1
  rw [List.append_assoc, List.getElem?_append_right (Nat.le_add_right _ _), Nat.add_sub_cancel_left, List.getElem?_append_left ht]
  exact h
theorem get_in2 {α : Type} {P A B Q : List α} {t k : Nat} {z : α} (h : A[t]? = some z) (hk : k = P.length + t) : (P ++ A ++ B ++ Q)[k]? = some z := by
  rw [List.append_assoc]
  exact get_in h hk
def SymAt (ad : Option Addr) (n c N : Nat) : Prop := ∀ (S : Nat → Prop) (P X Y Q : List En) (a9 m9 b9 : Nat) (w : World), X.length + Y.length < N → Hp w S w [cR 36 7 ad n c ((P ++ X ++ Y ++ Q).flatMap En.cells)] → n = (P ++ X ++ Y ++ Q).length → a9 = P.length → m9 = a9 + X.length → b9 = m9 + Y.length → 1 ≤ X.length → 1 ≤ Y.length → SrtS ltE X → SrtS ltE Y →
  Calls Try.prog 97 #[.slice ad n c, .int .i64 (a9 : Int), .int .i64 (m9 : Int), .int .i64 (b9 : Int), .func (.func 61) #[] #[]] w fun e w' => e = .returned (.tuple #[]) ∧ Hp w S w' [cR 36 7 ad n c ((P ++ mergeS ltE X Y ++ Q).flatMap En.cells)]

set_option maxHeartbeats 2000000 in
theorem sym_step {S : Nat → Prop} {ad : Option Addr} {n c : Nat} (P X Y Q : List En) {a9 m9 b9 : Nat} {w : World} (ih : SymAt ad n c (X.length + Y.length)) (H : Hp w S w [cR 36 7 ad n c ((P ++ X ++ Y ++ Q).flatMap En.cells)]) (hn : n = (P ++ X ++ Y ++ Q).length) (ha : a9 = P.length) (hm : m9 = a9 + X.length) (hb : b9 = m9 + Y.length) (hx1 : 1 ≤ X.length) (hy1 : 1 ≤ Y.length) (hsx : SrtS ltE X) (hsy : SrtS ltE Y) (hl : n ≤ 1000000) : Calls Try.prog 97 #[.slice ad n c, .int .i64 (a9 : Int), .int .i64 (m9 : Int), .int .i64 (b9 : Int), .func (.func 61) #[] #[]] w fun e w' => e = .returned (.tuple #[]) ∧ Hp w S w' [cR 36 7 ad n c ((P ++ mergeS ltE X Y ++ Q).flatMap En.cells)] := by
  have hnl : n = P.length + X.length + Y.length + Q.length := by rw [hn]; simp only [List.length_append]
  refine Sx.calls_into Try.func97 rfl Try.ntmps97 rfl fun a hT => ?_
  replace hT := hT.keep [0, 1, 2, 3, 4] rfl
  refine wp_seq_k fun K1 hK1 => ?_
  refine wp_seq_k fun K2 hK2 => ?_
  refine Sx.wp_text [(0, .take), (1, .take), (2, .take), (3, .take)] rfl ?_
  refine Sx.st_take hT rfl rfl rfl rfl (Sx.x_move hT rfl rfl) ?_
  clear hT; intro a hT
  refine Sx.st_take hT rfl rfl rfl rfl (Sx.x_move hT rfl rfl) ?_
  clear hT; intro a hT
  refine Sx.st_take hT rfl rfl rfl rfl ((fun w => Sx.x_sub w hT rfl rfl rfl (Sx.wrap64 (by omega)))) ?_
  clear hT; intro a hT
  rw [show ((m9 : Int) - (a9 : Int)) = ((X.length : Nat) : Int) from by omega] at hT
  refine Sx.st_take hT rfl rfl rfl rfl ((fun w => Sx.x_eq w hT rfl rfl rfl)) ?_
  clear hT; intro a hT
  replace hT := hT.keep [28, 0, 1, 2, 3, 4] rfl
  refine Sx.ser_nil ?_
  refine Sx.then_normal (hK2 _ _ ?_)
  clear hK2
  refine Sx.wp_if hT rfl (fun hc3 => ?_) (fun hc3 => ?_)
  · try simp only [Sx.bq] at hc3
    obtain ⟨x, rfl⟩ := List.length_eq_one_iff.1 (show X.length = 1 by omega)
    rw [List.length_singleton] at hm
    have hgx : (P ++ [x] ++ Y ++ Q)[a9]? = some x := get_in2 (t := 0) rfl (by omega)
    refine wp_seq_k fun K4 hK4 => ?_
    refine Sx.wp_text [(0, .take), (1, .take)] rfl ?_
    refine Sx.st_take hT rfl rfl rfl rfl (Sx.x_move hT rfl rfl) ?_
    clear hT; intro a hT
    refine Sx.st_take hT rfl rfl rfl rfl (Sx.x_assign hT rfl rfl) ?_
    clear hT; intro a hT
    replace hT := hT.keep [10, 28, 0, 1, 2, 3, 4] rfl
    refine Sx.ser_nil ?_
    refine Sx.then_normal (hK4 _ _ ?_)
    clear hK4
    refine wp_seq_k fun K5 hK5 => ?_
    refine Sx.wp_text [(0, .take), (1, .take)] rfl ?_
    refine Sx.st_take hT rfl rfl rfl rfl (Sx.x_move hT rfl rfl) ?_
    clear hT; intro a hT
    refine Sx.st_take hT rfl rfl rfl rfl (Sx.x_assign hT rfl rfl) ?_
    clear hT; intro a hT
    replace hT := hT.keep [11, 10, 28, 0, 1, 2, 3, 4] rfl
    refine Sx.ser_nil ?_
    refine Sx.then_normal (hK5 _ _ ?_)
    clear hK5
    refine wp_seq_k fun K6 hK6 => ?_
    refine wp_block ?_
    rw [hb] at hT
    refine Sx.wp_loopH (G := Nat × Nat) (fun ⟨p, q⟩ => [(10, .int .i64 ((m9 + p : Nat) : Int)), (11, .int .i64 ((m9 + q : Nat) : Int))]) (fun ⟨p, q⟩ => []) (fun ⟨p, q⟩ => p ≤ q ∧ q ≤ Y.length ∧ (∀ (t : Nat) y, t < p → Y[t]? = some y → ltE y x = true) ∧ (∀ (t : Nat) y, q ≤ t → Y[t]? = some y → ltE y x = false)) (fun ⟨p, q⟩ => q - p) (0, Y.length) (hT.keep [10, 11, 28, 0, 1, 2, 3, 4] rfl) (H.keep [0] rfl rfl) (⟨Nat.zero_le _, Nat.le_refl _, fun t y h => by omega, fun t y h h2 => by have := (List.getElem?_eq_some_iff.1 h2).1; omega⟩) ?_
    clear hT H
    rintro ⟨p, q⟩ a w1 hJ hT H
    replace hT := hT.keep [10, 11, 28, 0, 1, 2, 3, 4] rfl
    replace H := H.keep [0] rfl rfl
    obtain ⟨hpq, hq, hlo, hhi⟩ := hJ
    refine wp_seq_k fun K7 hK7 => ?_
    refine wp_seq_k fun K8 hK8 => ?_
    refine Sx.wp_text [(0, .take), (1, .take), (2, .take)] rfl ?_
    refine Sx.st_take hT rfl rfl rfl rfl (Sx.x_move hT rfl rfl) ?_
    clear hT; intro a hT
    refine Sx.st_take hT rfl rfl rfl rfl (Sx.x_move hT rfl rfl) ?_
    clear hT; intro a hT
    refine Sx.st_take hT rfl rfl rfl rfl ((fun w => Sx.x_lt w hT rfl rfl rfl)) ?_
    clear hT; intro a hT
    replace hT := hT.keep [33, 10, 11, 28, 0, 1, 2, 3, 4] rfl
    refine Sx.ser_nil ?_
    refine Sx.then_normal (hK8 _ _ ?_)
    clear hK8
    refine Sx.wp_if hT rfl (fun hc9 => ?_) (fun hc9 => ?_)
    · try simp only [Sx.bq] at hc9
      obtain ⟨o, ho⟩ : ∃ z, Y[(p + q) / 2]? = some z := ⟨_, List.getElem?_eq_getElem (by omega)⟩
      have hgh : (P ++ [x] ++ Y ++ Q)[m9 + (p + q) / 2]? = some o := get_in ho (by rw [List.length_append, List.length_singleton]; omega)
      refine wp_skip ?_
      refine Sx.then_normal (hK7 _ _ ?_)
      clear hK7
      refine wp_block ?_
      refine wp_seq_k fun K10 hK10 => ?_
      refine Sx.wp_text [(0, .take), (1, .take), (2, .take), (3, .take), (4, .take), (5, .take), (6, .take)] rfl ?_
      refine Sx.st_take hT rfl rfl rfl rfl (Sx.x_move hT rfl rfl) ?_
      clear hT; intro a hT
      refine Sx.st_take hT rfl rfl rfl rfl (Sx.x_move hT rfl rfl) ?_
      clear hT; intro a hT
      refine Sx.st_take hT rfl rfl rfl rfl ((fun w => Sx.x_add w hT rfl rfl rfl (Sx.wrap64 (by omega)))) ?_
      clear hT; intro a hT
      rw [show (((m9 + p : Nat) : Int) + ((m9 + q : Nat) : Int)) = ((m9 + p + (m9 + q) : Nat) : Int) from by omega] at hT
      refine Sx.st_take hT rfl rfl rfl rfl ((fun w => Sx.x_toint w hT rfl Try.underlying3 Try.underlying127 rfl (Sx.wrap_u64 (by omega) (by omega)))) ?_
      clear hT; intro a hT
      refine Sx.st_take hT rfl rfl rfl rfl (Sx.x_ushr (s := 1) hT rfl rfl rfl (by omega)) ?_
      clear hT; intro a hT
      rw [show (m9 + p + (m9 + q)) / 2 ^ 1 = m9 + (p + q) / 2 from by rw [show (2 : Nat) ^ 1 = 2 from rfl] <;> omega] at hT
      refine Sx.st_take hT rfl rfl rfl rfl ((fun w => Sx.x_toint w hT rfl Try.underlying127 Try.underlying3 rfl (Sx.wrap64 (by omega)))) ?_
      clear hT; intro a hT
      refine Sx.st_take hT rfl rfl rfl rfl (Sx.x_assign hT rfl rfl) ?_
      clear hT; intro a hT
      replace hT := hT.keep [12, 33, 10, 11, 28, 0, 1, 2, 3, 4] rfl
      refine Sx.ser_nil ?_
      refine Sx.then_normal (hK10 _ _ ?_)
      clear hK10
      refine wp_seq_k fun K11 hK11 => ?_
      refine Sx.wp_draws (fun u => Sx.Ext (Sx.No) u) [(0, .take), (1, .take), (2, .take), (3, .take), (4, .held), (5, .take), (6, .take), (7, .take), (8, .held), (9, .run), (10, .take)] (by kernel_rfl) (by kernel_rfl) (fun u E _ => ?_)
      replace H := H.pure E; clear E
      have hH : Sx.Ext (Sx.No) u u := Sx.Ext.refl _ _
      have Hu := H
      refine Sx.st_take hT rfl rfl rfl rfl (Sx.x_move hT rfl rfl) ?_
      clear hT; intro a hT
      refine Sx.st_take hT rfl rfl rfl rfl (Sx.x_move hT rfl rfl) ?_
      clear hT; intro a hT
      refine Sx.st_take hT rfl rfl rfl rfl (Sx.x_move hT rfl rfl) ?_
      clear hT; intro a hT
      refine Sx.st_take hT rfl rfl rfl rfl (Sx.x_index (k := m9 + (p + q) / 2) hT rfl Try.underlying22 Try.ti36 (H.row 0 rfl).sv rfl rfl (by first | rfl | omega) (by omega)) ?_
      clear hT; intro a hT
      refine Sx.st_held hT rfl rfl rfl rfl hH (fun w' h' => Sx.y_loadS hT rfl Try.underlying36 Try.ti36 rfl (((((Hu.heldR 0 rfl h' Sx.off_No).ssn (xs := P ++ [x] ++ Y ++ Q) (enc := En.cells) hn).cs En.len hgh).seg (i := 0) (k := 7) rfl)) (by rfl)) ?_
      clear hT; intro a hT
      refine Sx.st_take hT rfl rfl rfl rfl (Sx.x_move hT rfl rfl) ?_
      clear hT; intro a hT
      refine Sx.st_take hT rfl rfl rfl rfl (Sx.x_move hT rfl rfl) ?_
      clear hT; intro a hT
      refine Sx.st_take hT rfl rfl rfl rfl (Sx.x_index (k := a9) hT rfl Try.underlying22 Try.ti36 (H.row 0 rfl).sv rfl rfl (by first | rfl | omega) (by omega)) ?_
      clear hT; intro a hT
      refine Sx.st_held hT rfl rfl rfl rfl hH (fun w' h' => Sx.y_loadS hT rfl Try.underlying36 Try.ti36 rfl (((((Hu.heldR 0 rfl h' Sx.off_No).ssn (xs := P ++ [x] ++ Y ++ Q) (enc := En.cells) hn).cs En.len hgx).seg (i := 0) (k := 7) rfl)) (by rfl)) ?_
      clear hT; intro a hT
      refine Sx.st_callV hT rfl rfl rfl rfl rfl rfl Try.can61 rfl (sorted1_calls o x _) ?_
      rintro _ w2 ⟨rfl, E⟩
      refine ⟨_, rfl, ?_⟩
      clear hT; intro a hT
      replace H := H.pure E; clear E
      refine Sx.st_take hT rfl rfl rfl rfl ((fun w => Sx.x_lt w hT rfl rfl rfl)) ?_
      clear hT; intro a hT
      replace hT := hT.keep [50, 12, 33, 10, 11, 28, 0, 1, 2, 3, 4] rfl
      clear Hu hH
      refine Sx.ser_calm ?_
      refine Sx.then_normal (hK11 _ _ ?_)
      clear hK11
      refine Sx.wp_if hT rfl (fun hc12 => ?_) (fun hc12 => ?_)
      · try simp only [Sx.bq] at hc12
        have hox : ltE o x = true := decide_eq_true hc12
        refine Sx.wp_text [(0, .take), (1, .take), (2, .take)] rfl ?_
        refine Sx.st_take hT rfl rfl rfl rfl (Sx.x_move hT rfl rfl) ?_
        clear hT; intro a hT
        refine Sx.st_take hT rfl rfl rfl rfl ((fun w => Sx.x_add w hT rfl rfl rfl (Sx.wrap64 (by omega)))) ?_
        clear hT; intro a hT
        rw [show (((m9 + (p + q) / 2 : Nat) : Int) + 1) = ((m9 + ((p + q) / 2 + 1) : Nat) : Int) from by omega] at hT
        refine Sx.st_take hT rfl rfl rfl rfl (Sx.x_assign hT rfl rfl) ?_
        clear hT; intro a hT
        replace hT := hT.keep [10, 50, 12, 33, 11, 28, 0, 1, 2, 3, 4] rfl
        refine Sx.ser_nil ?_
        refine Sx.block_normal ?_
        refine Sx.then_normal ?_
        exact ⟨((p + q) / 2 + 1, q), ⟨by show (p + q) / 2 + 1 ≤ q; omega, hq, fun t y h3 h4 => ltE_ord.mix2 (hsy.get ltE_ord (show t ≤ (p + q) / 2 by have : t < (p + q) / 2 + 1 := h3; omega) h4 ho) hox, hhi⟩, (hT.keep [10, 11, 28, 0, 1, 2, 3, 4] rfl), (H.keep [0] rfl rfl), by show q - ((p + q) / 2 + 1) < q - p; omega⟩
      · try simp only [Sx.bq] at hc12
        have hox : ltE o x = false := decide_eq_false (by omega)
        refine Sx.wp_text [(0, .take), (1, .take)] rfl ?_
        refine Sx.st_take hT rfl rfl rfl rfl (Sx.x_move hT rfl rfl) ?_
        clear hT; intro a hT
        refine Sx.st_take hT rfl rfl rfl rfl (Sx.x_assign hT rfl rfl) ?_
        clear hT; intro a hT
        replace hT := hT.keep [11, 50, 12, 33, 10, 28, 0, 1, 2, 3, 4] rfl
        refine Sx.ser_nil ?_
        refine Sx.block_normal ?_
        refine Sx.then_normal ?_
        exact ⟨(p, (p + q) / 2), ⟨by show p ≤ (p + q) / 2; omega, by show (p + q) / 2 ≤ _; omega, hlo, fun t y h3 h4 => ltE_ord.neg (hsy.get ltE_ord (show (p + q) / 2 ≤ t from h3) ho h4) hox⟩, (hT.keep [10, 11, 28, 0, 1, 2, 3, 4] rfl), (H.keep [0] rfl rfl), by show (p + q) / 2 - p < q - p; omega⟩
    · try simp only [Sx.bq] at hc9
      obtain rfl : p = q := by omega
      have hone := one_first ltE_ord hsy hlo hhi
      refine wp_exit ?_
      refine Sx.then_exit ?_
      refine Sx.then_exit ?_
      refine Sx.block_exit ?_
      refine Sx.then_normal (hK6 _ _ ?_)
      clear hK6
      refine wp_seq_k fun K13 hK13 => ?_
      refine wp_seq_k fun K14 hK14 => ?_
      refine Sx.wp_text [(0, .take), (1, .take)] rfl ?_
      refine Sx.st_take hT rfl rfl rfl rfl (Sx.x_move hT rfl rfl) ?_
      clear hT; intro a hT
      refine Sx.st_take hT rfl rfl rfl rfl (Sx.x_assign hT rfl rfl) ?_
      clear hT; intro a hT
      replace hT := hT.keep [13, 33, 10, 11, 28, 0, 1, 2, 3, 4] rfl
      refine Sx.ser_nil ?_
      refine Sx.then_normal (hK14 _ _ ?_)
      clear hK14
      refine wp_block ?_
      rw [show P ++ [x] ++ Y ++ Q = P ++ Y.take 0 ++ x :: (Y.drop 0 ++ Q) from by simp only [List.take_zero, List.drop_zero, List.append_nil, List.append_assoc, List.cons_append, List.nil_append]] at H
      refine Sx.wp_loopH (G := Nat) (fun r => [(13, .int .i64 ((a9 + r : Nat) : Int))]) (fun r => [cR 36 7 ad n c ((P ++ Y.take r ++ x :: (Y.drop r ++ Q)).flatMap En.cells)]) (fun r => r ≤ p) (fun r => p - r) 0 (hT.keep [13, 33, 10, 11, 28, 0, 1, 2, 3, 4] rfl) (H.keep [0] rfl rfl) (Nat.zero_le _) ?_
      clear hT H
      rintro r a w3 hJ hT H
      replace hT := hT.keep [13, 33, 10, 11, 28, 0, 1, 2, 3, 4] rfl
      replace H := H.keep [0] rfl rfl
      have hr : r ≤ p := hJ
      refine wp_seq_k fun K15 hK15 => ?_
      refine wp_seq_k fun K16 hK16 => ?_
      refine Sx.wp_text [(0, .take), (1, .take), (2, .take), (3, .take)] rfl ?_
      refine Sx.st_take hT rfl rfl rfl rfl (Sx.x_move hT rfl rfl) ?_
      clear hT; intro a hT
      refine Sx.st_take hT rfl rfl rfl rfl (Sx.x_move hT rfl rfl) ?_
      clear hT; intro a hT
      refine Sx.st_take hT rfl rfl rfl rfl ((fun w => Sx.x_sub w hT rfl rfl rfl (Sx.wrap64 (by omega)))) ?_
      clear hT; intro a hT
      rw [show (((m9 + p : Nat) : Int) - 1) = ((a9 + p : Nat) : Int) from by omega] at hT
      refine Sx.st_take hT rfl rfl rfl rfl ((fun w => Sx.x_lt w hT rfl rfl rfl)) ?_
      clear hT; intro a hT
      replace hT := hT.keep [58, 13, 33, 10, 11, 28, 0, 1, 2, 3, 4] rfl
      refine Sx.ser_nil ?_
      refine Sx.then_normal (hK16 _ _ ?_)
      clear hK16
      refine Sx.wp_if hT rfl (fun hc17 => ?_) (fun hc17 => ?_)
      · try simp only [Sx.bq] at hc17
        obtain ⟨z, hz⟩ : ∃ u9, Y[r]? = some u9 := ⟨_, List.getElem?_eq_getElem (by omega)⟩
        have htl : (Y.take r).length = r := by rw [List.length_take]; omega
        have hdl : Y.drop r = z :: Y.drop (r + 1) := by obtain ⟨g9, rfl⟩ := List.getElem?_eq_some_iff.1 hz; exact List.drop_eq_getElem_cons g9
        have hrl : n = (P ++ Y.take r ++ x :: (Y.drop r ++ Q)).length := by simp only [List.length_append, List.length_cons, List.length_drop, htl]; simp only [List.length_singleton] at hnl; omega
        have hgx : (P ++ Y.take r ++ x :: (Y.drop r ++ Q))[a9 + r]? = some x := get_mid (by rw [List.length_append, htl, ha])
        have hgz : (P ++ Y.take r ++ x :: (Y.drop r ++ Q))[a9 + r + 1]? = some z := by rw [hdl, show P ++ Y.take r ++ x :: (z :: Y.drop (r + 1) ++ Q) = (P ++ Y.take r ++ [x]) ++ z :: (Y.drop (r + 1) ++ Q) from by simp only [List.append_assoc, List.cons_append, List.nil_append]]; exact get_mid (by rw [List.length_append, List.length_append, htl, List.length_singleton, ha])
        refine wp_skip ?_
        refine Sx.then_normal (hK15 _ _ ?_)
        clear hK15
        refine wp_seq_k fun K18 hK18 => ?_
        refine wp_block ?_
        refine Sx.wp_drawsT (fun u => Sx.Ext (Sx.No) u) (.node [(0, .take), (1, .take), (2, .take), (3, .take), (4, .take), (5, .take), (6, .take), (7, .take), (8, .take), (10, .take), (11, .take), (12, .take)] (.leaf [(9, .run), (13, .run), (14, .take), (15, .run), (16, .take), (17, .run)]) (.leaf [(13, .run), (9, .run), (14, .take), (15, .run), (16, .take), (17, .run)])) (by kernel_rfl) (by kernel_rfl) (fun u E _ => ?_)
        refine Sx.tser_node ?_
        replace H := H.pure E; clear E
        refine Sx.st_take hT rfl rfl rfl rfl (Sx.x_move hT rfl rfl) ?_
        clear hT; intro a hT
        refine Sx.st_take hT rfl rfl rfl rfl (Sx.x_move hT rfl rfl) ?_
        clear hT; intro a hT
        refine Sx.st_take hT rfl rfl rfl rfl (Sx.x_move hT rfl rfl) ?_
        clear hT; intro a hT
        refine Sx.st_take hT rfl rfl rfl rfl (Sx.x_move hT rfl rfl) ?_
        clear hT; intro a hT
        refine Sx.st_take hT rfl rfl rfl rfl ((fun w => Sx.x_add w hT rfl rfl rfl (Sx.wrap64 (by omega)))) ?_
        clear hT; intro a hT
        rw [show (((a9 + r : Nat) : Int) + 1) = ((a9 + r + 1 : Nat) : Int) from by omega] at hT
        refine Sx.st_take hT rfl rfl rfl rfl (Sx.x_move hT rfl rfl) ?_
        clear hT; intro a hT
        refine Sx.st_take hT rfl rfl rfl rfl (Sx.x_move hT rfl rfl) ?_
        clear hT; intro a hT
        refine Sx.st_take hT rfl rfl rfl rfl ((fun w => Sx.x_add w hT rfl rfl rfl (Sx.wrap64 (by omega)))) ?_
        clear hT; intro a hT
        rw [show (((a9 + r : Nat) : Int) + 1) = ((a9 + r + 1 : Nat) : Int) from by omega] at hT
        refine Sx.st_take hT rfl rfl rfl rfl (Sx.x_index (k := a9 + r + 1) hT rfl Try.underlying22 Try.ti36 (H.row 0 rfl).sv rfl rfl (by first | rfl | omega) (by omega)) ?_
        clear hT; intro a hT
        refine Sx.st_take hT rfl rfl rfl rfl (Sx.x_move hT rfl rfl) ?_
        clear hT; intro a hT
        refine Sx.st_take hT rfl rfl rfl rfl (Sx.x_move hT rfl rfl) ?_
        clear hT; intro a hT
        refine Sx.st_take hT rfl rfl rfl rfl (Sx.x_index (k := a9 + r) hT rfl Try.underlying22 Try.ti36 (H.row 0 rfl).sv rfl rfl (by first | rfl | omega) (by omega)) ?_
        clear hT; intro a hT
        refine Sx.ser_forkT ?_ ?_
        · skip
          refine Sx.tser_leaf ?_
          refine Sx.st_run hT rfl rfl rfl rfl (Sx.y_loadS hT rfl Try.underlying36 Try.ti36 rfl (((((H.row 0 rfl).ssn (xs := P ++ Y.take r ++ x :: (Y.drop r ++ Q)) (enc := En.cells) hrl).cs En.len hgz).seg (i := 0) (k := 7) rfl)) (by rfl)) ?_
          clear hT; intro a hT
          refine Sx.st_run hT rfl rfl rfl rfl (Sx.y_loadS hT rfl Try.underlying36 Try.ti36 rfl (((((H.row 0 rfl).ssn (xs := P ++ Y.take r ++ x :: (Y.drop r ++ Q)) (enc := En.cells) hrl).cs En.len hgx).seg (i := 0) (k := 7) rfl)) (by rfl)) ?_
          clear hT; intro a hT
          refine Sx.st_take hT rfl rfl rfl rfl (Sx.x_index (k := a9 + r) hT rfl Try.underlying22 Try.ti36 (H.row 0 rfl).sv rfl rfl (by first | rfl | omega) (by omega)) ?_
          clear hT; intro a hT
          refine Sx.st_act hT rfl rfl rfl (Sx.x_storeRowS (k := a9 + r) (r := z) hT rfl Try.ti36 rfl rfl En.len En.one rfl (H.row 0 rfl) hrl (by omega)) ?_
          rintro w4 ⟨hr, E, _⟩
          replace H := H.setR 0 rfl hr E (fun _ hk => .inl hk) rfl; clear hr E
          refine Sx.st_take hT rfl rfl rfl rfl (Sx.x_index (k := a9 + r + 1) hT rfl Try.underlying22 Try.ti36 (H.row 0 rfl).sv rfl rfl (by first | rfl | omega) (by omega)) ?_
          clear hT; intro a hT
          refine Sx.st_act hT rfl rfl rfl (Sx.x_storeRowS (k := a9 + r + 1) (r := x) hT rfl Try.ti36 rfl rfl En.len En.one rfl (H.row 0 rfl) (by rw [List.length_set]; exact hrl) (by omega)) ?_
          rintro w5 ⟨hr, E, _⟩
          replace H := H.setR 0 rfl hr E (fun _ hk => .inl hk) rfl; clear hr E
          replace hT := hT.keep [58, 13, 33, 10, 11, 28, 0, 1, 2, 3, 4] rfl
          refine Sx.ser_calm ?_
          refine Sx.block_normal ?_
          refine Sx.then_normal (hK18 _ _ ?_)
          clear hK18
          refine Sx.wp_text [(0, .take), (1, .take), (2, .take)] rfl ?_
          refine Sx.st_take hT rfl rfl rfl rfl (Sx.x_move hT rfl rfl) ?_
          clear hT; intro a hT
          refine Sx.st_take hT rfl rfl rfl rfl ((fun w => Sx.x_add w hT rfl rfl rfl (Sx.wrap64 (by omega)))) ?_
          clear hT; intro a hT
          rw [show (((a9 + r : Nat) : Int) + 1) = ((a9 + (r + 1) : Nat) : Int) from by omega] at hT
          refine Sx.st_take hT rfl rfl rfl rfl (Sx.x_assign hT rfl rfl) ?_
          clear hT; intro a hT
          replace hT := hT.keep [13, 58, 33, 10, 11, 28, 0, 1, 2, 3, 4] rfl
          refine Sx.ser_nil ?_
          refine Sx.then_normal ?_
          rw [set_mid (by rw [List.length_append, htl, ha]), hdl, show P ++ Y.take r ++ z :: (z :: Y.drop (r + 1) ++ Q) = (P ++ Y.take r ++ [z]) ++ z :: (Y.drop (r + 1) ++ Q) from by simp only [List.append_assoc, List.cons_append, List.nil_append], set_mid (by rw [List.length_append, List.length_append, htl, List.length_singleton, ha]), show P ++ Y.take r ++ [z] = P ++ Y.take (r + 1) from by rw [take_app hz, List.append_assoc]] at H
          exact ⟨r + 1, (by omega), (hT.keep [13, 33, 10, 11, 28, 0, 1, 2, 3, 4] rfl), (H.keep [0] rfl rfl), by omega⟩
        · skip
          refine Sx.tser_leaf ?_
          refine Sx.st_run hT rfl rfl rfl rfl (Sx.y_loadS hT rfl Try.underlying36 Try.ti36 rfl (((((H.row 0 rfl).ssn (xs := P ++ Y.take r ++ x :: (Y.drop r ++ Q)) (enc := En.cells) hrl).cs En.len hgx).seg (i := 0) (k := 7) rfl)) (by rfl)) ?_
          clear hT; intro a hT
          refine Sx.st_run hT rfl rfl rfl rfl (Sx.y_loadS hT rfl Try.underlying36 Try.ti36 rfl (((((H.row 0 rfl).ssn (xs := P ++ Y.take r ++ x :: (Y.drop r ++ Q)) (enc := En.cells) hrl).cs En.len hgz).seg (i := 0) (k := 7) rfl)) (by rfl)) ?_
          clear hT; intro a hT
          refine Sx.st_take hT rfl rfl rfl rfl (Sx.x_index (k := a9 + r) hT rfl Try.underlying22 Try.ti36 (H.row 0 rfl).sv rfl rfl (by first | rfl | omega) (by omega)) ?_
          clear hT; intro a hT
          refine Sx.st_act hT rfl rfl rfl (Sx.x_storeRowS (k := a9 + r) (r := z) hT rfl Try.ti36 rfl rfl En.len En.one rfl (H.row 0 rfl) hrl (by omega)) ?_
          rintro w6 ⟨hr, E, _⟩
          replace H := H.setR 0 rfl hr E (fun _ hk => .inl hk) rfl; clear hr E
          refine Sx.st_take hT rfl rfl rfl rfl (Sx.x_index (k := a9 + r + 1) hT rfl Try.underlying22 Try.ti36 (H.row 0 rfl).sv rfl rfl (by first | rfl | omega) (by omega)) ?_
          clear hT; intro a hT
          refine Sx.st_act hT rfl rfl rfl (Sx.x_storeRowS (k := a9 + r + 1) (r := x) hT rfl Try.ti36 rfl rfl En.len En.one rfl (H.row 0 rfl) (by rw [List.length_set]; exact hrl) (by omega)) ?_
          rintro w7 ⟨hr, E, _⟩
          replace H := H.setR 0 rfl hr E (fun _ hk => .inl hk) rfl; clear hr E
          replace hT := hT.keep [58, 13, 33, 10, 11, 28, 0, 1, 2, 3, 4] rfl
          refine Sx.ser_calm ?_
          refine Sx.block_normal ?_
          refine Sx.then_normal (hK18 _ _ ?_)
          clear hK18
          refine Sx.wp_text [(0, .take), (1, .take), (2, .take)] rfl ?_
          refine Sx.st_take hT rfl rfl rfl rfl (Sx.x_move hT rfl rfl) ?_
          clear hT; intro a hT
          refine Sx.st_take hT rfl rfl rfl rfl ((fun w => Sx.x_add w hT rfl rfl rfl (Sx.wrap64 (by omega)))) ?_
          clear hT; intro a hT
          rw [show (((a9 + r : Nat) : Int) + 1) = ((a9 + (r + 1) : Nat) : Int) from by omega] at hT
          refine Sx.st_take hT rfl rfl rfl rfl (Sx.x_assign hT rfl rfl) ?_
          clear hT; intro a hT
          replace hT := hT.keep [13, 58, 33, 10, 11, 28, 0, 1, 2, 3, 4] rfl
          refine Sx.ser_nil ?_
          refine Sx.then_normal ?_
          rw [set_mid (by rw [List.length_append, htl, ha]), hdl, show P ++ Y.take r ++ z :: (z :: Y.drop (r + 1) ++ Q) = (P ++ Y.take r ++ [z]) ++ z :: (Y.drop (r + 1) ++ Q) from by simp only [List.append_assoc, List.cons_append, List.nil_append], set_mid (by rw [List.length_append, List.length_append, htl, List.length_singleton, ha]), show P ++ Y.take r ++ [z] = P ++ Y.take (r + 1) from by rw [take_app hz, List.append_assoc]] at H
          exact ⟨r + 1, (by omega), (hT.keep [13, 33, 10, 11, 28, 0, 1, 2, 3, 4] rfl), (H.keep [0] rfl rfl), by omega⟩
      · try simp only [Sx.bq] at hc17
        obtain rfl : r = p := by omega
        rw [show P ++ Y.take r ++ x :: (Y.drop r ++ Q) = P ++ mergeS ltE [x] Y ++ Q from by rw [hone]; simp only [List.append_assoc, List.cons_append]] at H
        refine wp_exit ?_
        refine Sx.then_exit ?_
        refine Sx.then_exit ?_
        refine Sx.block_exit ?_
        refine Sx.then_normal (hK13 _ _ ?_)
        clear hK13
        refine wp_ret ?_
        refine Sx.then_ret ?_
        refine Sx.done0 (fn := Try.f97) hT rfl  ?_
        exact ⟨rfl, H.keep [0] rfl rfl⟩
  · try simp only [Sx.bq] at hc3
    refine wp_skip ?_
    refine Sx.then_normal (hK1 _ _ ?_)
    clear hK1
    refine wp_seq_k fun K19 hK19 => ?_
    refine wp_seq_k fun K20 hK20 => ?_
    refine Sx.wp_text [(0, .take), (1, .take), (2, .take), (3, .take)] rfl ?_
    refine Sx.st_take hT rfl rfl rfl rfl (Sx.x_move hT rfl rfl) ?_
    clear hT; intro a hT
    refine Sx.st_take hT rfl rfl rfl rfl (Sx.x_move hT rfl rfl) ?_
    clear hT; intro a hT
    refine Sx.st_take hT rfl rfl rfl rfl ((fun w => Sx.x_sub w hT rfl rfl rfl (Sx.wrap64 (by omega)))) ?_
    clear hT; intro a hT
    rw [show ((b9 : Int) - (m9 : Int)) = ((Y.length : Nat) : Int) from by omega] at hT
    refine Sx.st_take hT rfl rfl rfl rfl ((fun w => Sx.x_eq w hT rfl rfl rfl)) ?_
    clear hT; intro a hT
    replace hT := hT.keep [80, 28, 0, 1, 2, 3, 4] rfl
    refine Sx.ser_nil ?_
    refine Sx.then_normal (hK20 _ _ ?_)
    clear hK20
    refine Sx.wp_if hT rfl (fun hc21 => ?_) (fun hc21 => ?_)
    · try simp only [Sx.bq] at hc21
      obtain ⟨y, rfl⟩ := List.length_eq_one_iff.1 (show Y.length = 1 by omega)
      have hgy : (P ++ X ++ [y] ++ Q)[m9]? = some y := get_in (t := 0) rfl (by rw [List.length_append]; omega)
      refine wp_seq_k fun K22 hK22 => ?_
      refine Sx.wp_text [(0, .take), (1, .take)] rfl ?_
      refine Sx.st_take hT rfl rfl rfl rfl (Sx.x_move hT rfl rfl) ?_
      clear hT; intro a hT
      refine Sx.st_take hT rfl rfl rfl rfl (Sx.x_assign hT rfl rfl) ?_
      clear hT; intro a hT
      replace hT := hT.keep [14, 80, 28, 0, 1, 2, 3, 4] rfl
      refine Sx.ser_nil ?_
      refine Sx.then_normal (hK22 _ _ ?_)
      clear hK22
      refine wp_seq_k fun K23 hK23 => ?_
      refine Sx.wp_text [(0, .take), (1, .take)] rfl ?_
      refine Sx.st_take hT rfl rfl rfl rfl (Sx.x_move hT rfl rfl) ?_
      clear hT; intro a hT
      refine Sx.st_take hT rfl rfl rfl rfl (Sx.x_assign hT rfl rfl) ?_
      clear hT; intro a hT
      replace hT := hT.keep [15, 14, 80, 28, 0, 1, 2, 3, 4] rfl
      refine Sx.ser_nil ?_
      refine Sx.then_normal (hK23 _ _ ?_)
      clear hK23
      refine wp_seq_k fun K24 hK24 => ?_
      refine wp_block ?_
      rw [show (15, Value.int .i64 (m9 : Int)) = (15, Value.int .i64 ((a9 + X.length : Nat) : Int)) from by rw [hm]] at hT
      refine Sx.wp_loopH (G := Nat × Nat) (fun ⟨p, q⟩ => [(14, .int .i64 ((a9 + p : Nat) : Int)), (15, .int .i64 ((a9 + q : Nat) : Int))]) (fun ⟨p, q⟩ => []) (fun ⟨p, q⟩ => p ≤ q ∧ q ≤ X.length ∧ (∀ (t : Nat) x, t < p → X[t]? = some x → ltE y x = false) ∧ (∀ (t : Nat) x, q ≤ t → X[t]? = some x → ltE y x = true)) (fun ⟨p, q⟩ => q - p) (0, X.length) (hT.keep [14, 15, 80, 28, 0, 1, 2, 3, 4] rfl) (H.keep [0] rfl rfl) (⟨Nat.zero_le _, Nat.le_refl _, fun t y h => by omega, fun t y h h2 => by have := (List.getElem?_eq_some_iff.1 h2).1; omega⟩) ?_
      clear hT H
      rintro ⟨p, q⟩ a w8 hJ hT H
      replace hT := hT.keep [14, 15, 80, 28, 0, 1, 2, 3, 4] rfl
      replace H := H.keep [0] rfl rfl
      obtain ⟨hpq, hq, hlo, hhi⟩ := hJ
      refine wp_seq_k fun K25 hK25 => ?_
      refine wp_seq_k fun K26 hK26 => ?_
      refine Sx.wp_text [(0, .take), (1, .take), (2, .take)] rfl ?_
      refine Sx.st_take hT rfl rfl rfl rfl (Sx.x_move hT rfl rfl) ?_
      clear hT; intro a hT
      refine Sx.st_take hT rfl rfl rfl rfl (Sx.x_move hT rfl rfl) ?_
      clear hT; intro a hT
      refine Sx.st_take hT rfl rfl rfl rfl ((fun w => Sx.x_lt w hT rfl rfl rfl)) ?_
      clear hT; intro a hT
      replace hT := hT.keep [85, 14, 15, 80, 28, 0, 1, 2, 3, 4] rfl
      refine Sx.ser_nil ?_
      refine Sx.then_normal (hK26 _ _ ?_)
      clear hK26
      refine Sx.wp_if hT rfl (fun hc27 => ?_) (fun hc27 => ?_)
      · try simp only [Sx.bq] at hc27
        obtain ⟨o, ho⟩ : ∃ z, X[(p + q) / 2]? = some z := ⟨_, List.getElem?_eq_getElem (by omega)⟩
        have hgh : (P ++ X ++ [y] ++ Q)[a9 + (p + q) / 2]? = some o := get_in2 ho (by omega)
        refine wp_skip ?_
        refine Sx.then_normal (hK25 _ _ ?_)
        clear hK25
        refine wp_block ?_
        refine wp_seq_k fun K28 hK28 => ?_
        refine Sx.wp_text [(0, .take), (1, .take), (2, .take), (3, .take), (4, .take), (5, .take), (6, .take)] rfl ?_
        refine Sx.st_take hT rfl rfl rfl rfl (Sx.x_move hT rfl rfl) ?_
        clear hT; intro a hT
        refine Sx.st_take hT rfl rfl rfl rfl (Sx.x_move hT rfl rfl) ?_
        clear hT; intro a hT
        refine Sx.st_take hT rfl rfl rfl rfl ((fun w => Sx.x_add w hT rfl rfl rfl (Sx.wrap64 (by omega)))) ?_
        clear hT; intro a hT
        rw [show (((a9 + p : Nat) : Int) + ((a9 + q : Nat) : Int)) = ((a9 + p + (a9 + q) : Nat) : Int) from by omega] at hT
        refine Sx.st_take hT rfl rfl rfl rfl ((fun w => Sx.x_toint w hT rfl Try.underlying3 Try.underlying127 rfl (Sx.wrap_u64 (by omega) (by omega)))) ?_
        clear hT; intro a hT
        refine Sx.st_take hT rfl rfl rfl rfl (Sx.x_ushr (s := 1) hT rfl rfl rfl (by omega)) ?_
        clear hT; intro a hT
        rw [show (a9 + p + (a9 + q)) / 2 ^ 1 = a9 + (p + q) / 2 from by rw [show (2 : Nat) ^ 1 = 2 from rfl] <;> omega] at hT
        refine Sx.st_take hT rfl rfl rfl rfl ((fun w => Sx.x_toint w hT rfl Try.underlying127 Try.underlying3 rfl (Sx.wrap64 (by omega)))) ?_
        clear hT; intro a hT
        refine Sx.st_take hT rfl rfl rfl rfl (Sx.x_assign hT rfl rfl) ?_
        clear hT; intro a hT
        replace hT := hT.keep [16, 85, 14, 15, 80, 28, 0, 1, 2, 3, 4] rfl
        refine Sx.ser_nil ?_
        refine Sx.then_normal (hK28 _ _ ?_)
        clear hK28
        refine wp_seq_k fun K29 hK29 => ?_
        refine Sx.wp_draws (fun u => Sx.Ext (Sx.No) u) [(0, .take), (1, .take), (2, .take), (3, .take), (4, .held), (5, .take), (6, .take), (7, .take), (8, .held), (9, .run), (10, .take), (11, .take)] (by kernel_rfl) (by kernel_rfl) (fun u E _ => ?_)
        replace H := H.pure E; clear E
        have hH : Sx.Ext (Sx.No) u u := Sx.Ext.refl _ _
        have Hu := H
        refine Sx.st_take hT rfl rfl rfl rfl (Sx.x_move hT rfl rfl) ?_
        clear hT; intro a hT
        refine Sx.st_take hT rfl rfl rfl rfl (Sx.x_move hT rfl rfl) ?_
        clear hT; intro a hT
        refine Sx.st_take hT rfl rfl rfl rfl (Sx.x_move hT rfl rfl) ?_
        clear hT; intro a hT
        refine Sx.st_take hT rfl rfl rfl rfl (Sx.x_index (k := m9) hT rfl Try.underlying22 Try.ti36 (H.row 0 rfl).sv rfl rfl (by first | rfl | omega) (by omega)) ?_
        clear hT; intro a hT
        refine Sx.st_held hT rfl rfl rfl rfl hH (fun w' h' => Sx.y_loadS hT rfl Try.underlying36 Try.ti36 rfl (((((Hu.heldR 0 rfl h' Sx.off_No).ssn (xs := P ++ X ++ [y] ++ Q) (enc := En.cells) hn).cs En.len hgy).seg (i := 0) (k := 7) rfl)) (by rfl)) ?_
        clear hT; intro a hT
        refine Sx.st_take hT rfl rfl rfl rfl (Sx.x_move hT rfl rfl) ?_
        clear hT; intro a hT
        refine Sx.st_take hT rfl rfl rfl rfl (Sx.x_move hT rfl rfl) ?_
        clear hT; intro a hT
        refine Sx.st_take hT rfl rfl rfl rfl (Sx.x_index (k := a9 + (p + q) / 2) hT rfl Try.underlying22 Try.ti36 (H.row 0 rfl).sv rfl rfl (by first | rfl | omega) (by omega)) ?_
        clear hT; intro a hT
        refine Sx.st_held hT rfl rfl rfl rfl hH (fun w' h' => Sx.y_loadS hT rfl Try.underlying36 Try.ti36 rfl (((((Hu.heldR 0 rfl h' Sx.off_No).ssn (xs := P ++ X ++ [y] ++ Q) (enc := En.cells) hn).cs En.len hgh).seg (i := 0) (k := 7) rfl)) (by rfl)) ?_
        clear hT; intro a hT
        refine Sx.st_callV hT rfl rfl rfl rfl rfl rfl Try.can61 rfl (sorted1_calls y o _) ?_
        rintro _ w9 ⟨rfl, E⟩
        refine ⟨_, rfl, ?_⟩
        clear hT; intro a hT
        replace H := H.pure E; clear E
        refine Sx.st_take hT rfl rfl rfl rfl ((fun w => Sx.x_lt w hT rfl rfl rfl)) ?_
        clear hT; intro a hT
        refine Sx.st_take hT rfl rfl rfl rfl (Sx.x_not hT rfl rfl) ?_
        clear hT; intro a hT
        replace hT := hT.keep [103, 16, 85, 14, 15, 80, 28, 0, 1, 2, 3, 4] rfl
        clear Hu hH
        refine Sx.ser_calm ?_
        refine Sx.then_normal (hK29 _ _ ?_)
        clear hK29
        refine Sx.wp_if hT rfl (fun hc30 => ?_) (fun hc30 => ?_)
        · try simp only [Sx.bq] at hc30
          have hox : ltE y o = false := decide_eq_false (by omega)
          refine Sx.wp_text [(0, .take), (1, .take), (2, .take)] rfl ?_
          refine Sx.st_take hT rfl rfl rfl rfl (Sx.x_move hT rfl rfl) ?_
          clear hT; intro a hT
          refine Sx.st_take hT rfl rfl rfl rfl ((fun w => Sx.x_add w hT rfl rfl rfl (Sx.wrap64 (by omega)))) ?_
          clear hT; intro a hT
          rw [show (((a9 + (p + q) / 2 : Nat) : Int) + 1) = ((a9 + ((p + q) / 2 + 1) : Nat) : Int) from by omega] at hT
          refine Sx.st_take hT rfl rfl rfl rfl (Sx.x_assign hT rfl rfl) ?_
          clear hT; intro a hT
          replace hT := hT.keep [14, 103, 16, 85, 15, 80, 28, 0, 1, 2, 3, 4] rfl
          refine Sx.ser_nil ?_
          refine Sx.block_normal ?_
          refine Sx.then_normal ?_
          exact ⟨((p + q) / 2 + 1, q), ⟨by show (p + q) / 2 + 1 ≤ q; omega, hq, fun t x h3 h4 => ltE_ord.neg hox (hsx.get ltE_ord (show t ≤ (p + q) / 2 by have : t < (p + q) / 2 + 1 := h3; omega) h4 ho), hhi⟩, (hT.keep [14, 15, 80, 28, 0, 1, 2, 3, 4] rfl), (H.keep [0] rfl rfl), by show q - ((p + q) / 2 + 1) < q - p; omega⟩
        · try simp only [Sx.bq] at hc30
          have hox : ltE y o = true := decide_eq_true (by omega)
          refine Sx.wp_text [(0, .take), (1, .take)] rfl ?_
          refine Sx.st_take hT rfl rfl rfl rfl (Sx.x_move hT rfl rfl) ?_
          clear hT; intro a hT
          refine Sx.st_take hT rfl rfl rfl rfl (Sx.x_assign hT rfl rfl) ?_
          clear hT; intro a hT
          replace hT := hT.keep [15, 103, 16, 85, 14, 80, 28, 0, 1, 2, 3, 4] rfl
          refine Sx.ser_nil ?_
          refine Sx.block_normal ?_
          refine Sx.then_normal ?_
          exact ⟨(p, (p + q) / 2), ⟨by show p ≤ (p + q) / 2; omega, by show (p + q) / 2 ≤ _; omega, hlo, fun t x h3 h4 => ltE_ord.mix hox (hsx.get ltE_ord (show (p + q) / 2 ≤ t from h3) ho h4)⟩, (hT.keep [14, 15, 80, 28, 0, 1, 2, 3, 4] rfl), (H.keep [0] rfl rfl), by show (p + q) / 2 - p < q - p; omega⟩
      · try simp only [Sx.bq] at hc27
        obtain rfl : p = q := by omega
        have hone := one_last hlo hhi
        refine wp_exit ?_
        refine Sx.then_exit ?_
        refine Sx.then_exit ?_
        refine Sx.block_exit ?_
        refine Sx.then_normal (hK24 _ _ ?_)
        clear hK24
        refine wp_seq_k fun K31 hK31 => ?_
        refine wp_seq_k fun K32 hK32 => ?_
        refine Sx.wp_text [(0, .take), (1, .take)] rfl ?_
        refine Sx.st_take hT rfl rfl rfl rfl (Sx.x_move hT rfl rfl) ?_
        clear hT; intro a hT
        refine Sx.st_take hT rfl rfl rfl rfl (Sx.x_assign hT rfl rfl) ?_
        clear hT; intro a hT
        replace hT := hT.keep [17, 85, 14, 15, 80, 28, 0, 1, 2, 3, 4] rfl
        refine Sx.ser_nil ?_
        refine Sx.then_normal (hK32 _ _ ?_)
        clear hK32
        refine wp_block ?_
        rw [show P ++ X ++ [y] ++ Q = P ++ X.take X.length ++ y :: (X.drop X.length ++ Q) from by simp only [List.take_length, List.drop_length, List.append_assoc, List.cons_append, List.nil_append]] at H
        rw [show (17, Value.int .i64 (m9 : Int)) = (17, Value.int .i64 ((a9 + X.length : Nat) : Int)) from by rw [hm]] at hT
        refine Sx.wp_loopH (G := Nat) (fun r => [(17, .int .i64 ((a9 + r : Nat) : Int))]) (fun r => [cR 36 7 ad n c ((P ++ X.take r ++ y :: (X.drop r ++ Q)).flatMap En.cells)]) (fun r => p ≤ r ∧ r ≤ X.length) (fun r => r) X.length (hT.keep [17, 85, 14, 15, 80, 28, 0, 1, 2, 3, 4] rfl) (H.keep [0] rfl rfl) (⟨hq, Nat.le_refl _⟩) ?_
        clear hT H
        rintro r a w10 hJ hT H
        replace hT := hT.keep [17, 85, 14, 15, 80, 28, 0, 1, 2, 3, 4] rfl
        replace H := H.keep [0] rfl rfl
        obtain ⟨hr1, hr⟩ := hJ
        refine wp_seq_k fun K33 hK33 => ?_
        refine wp_seq_k fun K34 hK34 => ?_
        refine Sx.wp_text [(0, .take), (1, .take), (2, .take)] rfl ?_
        refine Sx.st_take hT rfl rfl rfl rfl (Sx.x_move hT rfl rfl) ?_
        clear hT; intro a hT
        refine Sx.st_take hT rfl rfl rfl rfl (Sx.x_move hT rfl rfl) ?_
        clear hT; intro a hT
        refine Sx.st_take hT rfl rfl rfl rfl ((fun w => Sx.x_gt w hT rfl rfl rfl)) ?_
        clear hT; intro a hT
        replace hT := hT.keep [110, 17, 85, 14, 15, 80, 28, 0, 1, 2, 3, 4] rfl
        refine Sx.ser_nil ?_
        refine Sx.then_normal (hK34 _ _ ?_)
        clear hK34
        refine Sx.wp_if hT rfl (fun hc35 => ?_) (fun hc35 => ?_)
        · try simp only [Sx.bq] at hc35
          obtain ⟨z, hz⟩ : ∃ u9, X[r - 1]? = some u9 := ⟨_, List.getElem?_eq_getElem (by omega)⟩
          have htl : (X.take (r - 1)).length = r - 1 := by rw [List.length_take]; omega
          have htk : X.take r = X.take (r - 1) ++ [z] := by have := take_app hz; rwa [show r - 1 + 1 = r from by omega] at this
          have hdl : X.drop (r - 1) = z :: X.drop r := by obtain ⟨g9, rfl⟩ := List.getElem?_eq_some_iff.1 hz; have := List.drop_eq_getElem_cons g9; rwa [show r - 1 + 1 = r from by omega] at this
          have hrl : n = (P ++ X.take r ++ y :: (X.drop r ++ Q)).length := by simp only [List.length_append, List.length_cons, List.length_drop, List.length_take]; simp only [List.length_singleton] at hnl; omega
          have hgy : (P ++ X.take r ++ y :: (X.drop r ++ Q))[a9 + r]? = some y := get_mid (by rw [List.length_append, List.length_take]; omega)
          have hgz : (P ++ X.take r ++ y :: (X.drop r ++ Q))[a9 + r - 1]? = some z := by rw [htk, show P ++ (X.take (r - 1) ++ [z]) ++ y :: (X.drop r ++ Q) = (P ++ X.take (r - 1)) ++ z :: (y :: (X.drop r ++ Q)) from by simp only [List.append_assoc, List.cons_append, List.nil_append]]; exact get_mid (by rw [List.length_append, htl]; omega)
          refine wp_skip ?_
          refine Sx.then_normal (hK33 _ _ ?_)
          clear hK33
          refine wp_seq_k fun K36 hK36 => ?_
          refine wp_block ?_
          refine Sx.wp_drawsT (fun u => Sx.Ext (Sx.No) u) (.node [(0, .take), (1, .take), (2, .take), (3, .take), (4, .take), (5, .take), (6, .take), (7, .take), (8, .take), (10, .take), (11, .take), (12, .take)] (.leaf [(9, .run), (13, .run), (14, .take), (15, .run), (16, .take), (17, .run)]) (.leaf [(13, .run), (9, .run), (14, .take), (15, .run), (16, .take), (17, .run)])) (by kernel_rfl) (by kernel_rfl) (fun u E _ => ?_)
          refine Sx.tser_node ?_
          replace H := H.pure E; clear E
          refine Sx.st_take hT rfl rfl rfl rfl (Sx.x_move hT rfl rfl) ?_
          clear hT; intro a hT
          refine Sx.st_take hT rfl rfl rfl rfl (Sx.x_move hT rfl rfl) ?_
          clear hT; intro a hT
          refine Sx.st_take hT rfl rfl rfl rfl (Sx.x_move hT rfl rfl) ?_
          clear hT; intro a hT
          refine Sx.st_take hT rfl rfl rfl rfl (Sx.x_move hT rfl rfl) ?_
          clear hT; intro a hT
          refine Sx.st_take hT rfl rfl rfl rfl ((fun w => Sx.x_sub w hT rfl rfl rfl (Sx.wrap64 (by omega)))) ?_
          clear hT; intro a hT
          rw [show (((a9 + r : Nat) : Int) - 1) = ((a9 + r - 1 : Nat) : Int) from by omega] at hT
          refine Sx.st_take hT rfl rfl rfl rfl (Sx.x_move hT rfl rfl) ?_
          clear hT; intro a hT
          refine Sx.st_take hT rfl rfl rfl rfl (Sx.x_move hT rfl rfl) ?_
          clear hT; intro a hT
          refine Sx.st_take hT rfl rfl rfl rfl ((fun w => Sx.x_sub w hT rfl rfl rfl (Sx.wrap64 (by omega)))) ?_
          clear hT; intro a hT
          rw [show (((a9 + r : Nat) : Int) - 1) = ((a9 + r - 1 : Nat) : Int) from by omega] at hT
          refine Sx.st_take hT rfl rfl rfl rfl (Sx.x_index (k := a9 + r - 1) hT rfl Try.underlying22 Try.ti36 (H.row 0 rfl).sv rfl rfl (by first | rfl | omega) (by omega)) ?_
          clear hT; intro a hT
          refine Sx.st_take hT rfl rfl rfl rfl (Sx.x_move hT rfl rfl) ?_
          clear hT; intro a hT
          refine Sx.st_take hT rfl rfl rfl rfl (Sx.x_move hT rfl rfl) ?_
          clear hT; intro a hT
          refine Sx.st_take hT rfl rfl rfl rfl (Sx.x_index (k := a9 + r) hT rfl Try.underlying22 Try.ti36 (H.row 0 rfl).sv rfl rfl (by first | rfl | omega) (by omega)) ?_
          clear hT; intro a hT
          refine Sx.ser_forkT ?_ ?_
          · skip
            refine Sx.tser_leaf ?_
            refine Sx.st_run hT rfl rfl rfl rfl (Sx.y_loadS hT rfl Try.underlying36 Try.ti36 rfl (((((H.row 0 rfl).ssn (xs := P ++ X.take r ++ y :: (X.drop r ++ Q)) (enc := En.cells) hrl).cs En.len hgz).seg (i := 0) (k := 7) rfl)) (by rfl)) ?_
            clear hT; intro a hT
            refine Sx.st_run hT rfl rfl rfl rfl (Sx.y_loadS hT rfl Try.underlying36 Try.ti36 rfl (((((H.row 0 rfl).ssn (xs := P ++ X.take r ++ y :: (X.drop r ++ Q)) (enc := En.cells) hrl).cs En.len hgy).seg (i := 0) (k := 7) rfl)) (by rfl)) ?_
            clear hT; intro a hT
            refine Sx.st_take hT rfl rfl rfl rfl (Sx.x_index (k := a9 + r) hT rfl Try.underlying22 Try.ti36 (H.row 0 rfl).sv rfl rfl (by first | rfl | omega) (by omega)) ?_
            clear hT; intro a hT
            refine Sx.st_act hT rfl rfl rfl (Sx.x_storeRowS (k := a9 + r) (r := z) hT rfl Try.ti36 rfl rfl En.len En.one rfl (H.row 0 rfl) hrl (by omega)) ?_
            rintro w11 ⟨hr, E, _⟩
            replace H := H.setR 0 rfl hr E (fun _ hk => .inl hk) rfl; clear hr E
            refine Sx.st_take hT rfl rfl rfl rfl (Sx.x_index (k := a9 + r - 1) hT rfl Try.underlying22 Try.ti36 (H.row 0 rfl).sv rfl rfl (by first | rfl | omega) (by omega)) ?_
            clear hT; intro a hT
            refine Sx.st_act hT rfl rfl rfl (Sx.x_storeRowS (k := a9 + r - 1) (r := y) hT rfl Try.ti36 rfl rfl En.len En.one rfl (H.row 0 rfl) (by rw [List.length_set]; exact hrl) (by omega)) ?_
            rintro w12 ⟨hr, E, _⟩
            replace H := H.setR 0 rfl hr E (fun _ hk => .inl hk) rfl; clear hr E
            replace hT := hT.keep [110, 17, 85, 14, 15, 80, 28, 0, 1, 2, 3, 4] rfl
            refine Sx.ser_calm ?_
            refine Sx.block_normal ?_
            refine Sx.then_normal (hK36 _ _ ?_)
            clear hK36
            refine Sx.wp_text [(0, .take), (1, .take), (2, .take)] rfl ?_
            refine Sx.st_take hT rfl rfl rfl rfl (Sx.x_move hT rfl rfl) ?_
            clear hT; intro a hT
            refine Sx.st_take hT rfl rfl rfl rfl ((fun w => Sx.x_sub w hT rfl rfl rfl (Sx.wrap64 (by omega)))) ?_
            clear hT; intro a hT
            rw [show (((a9 + r : Nat) : Int) - 1) = ((a9 + (r - 1) : Nat) : Int) from by omega] at hT
            refine Sx.st_take hT rfl rfl rfl rfl (Sx.x_assign hT rfl rfl) ?_
            clear hT; intro a hT
            replace hT := hT.keep [17, 110, 85, 14, 15, 80, 28, 0, 1, 2, 3, 4] rfl
            refine Sx.ser_nil ?_
            refine Sx.then_normal ?_
            rw [set_mid (by rw [List.length_append, List.length_take]; omega), htk, show P ++ (X.take (r - 1) ++ [z]) ++ z :: (X.drop r ++ Q) = (P ++ X.take (r - 1)) ++ z :: (z :: (X.drop r ++ Q)) from by simp only [List.append_assoc, List.cons_append, List.nil_append], set_mid (by rw [List.length_append, htl]; omega), show (P ++ X.take (r - 1)) ++ y :: (z :: (X.drop r ++ Q)) = P ++ X.take (r - 1) ++ y :: (X.drop (r - 1) ++ Q) from by rw [hdl]; simp only [List.cons_append]] at H
            exact ⟨r - 1, ⟨by omega, by omega⟩, (hT.keep [17, 85, 14, 15, 80, 28, 0, 1, 2, 3, 4] rfl), (H.keep [0] rfl rfl), by show r - 1 < r; omega⟩
          · skip
            refine Sx.tser_leaf ?_
            refine Sx.st_run hT rfl rfl rfl rfl (Sx.y_loadS hT rfl Try.underlying36 Try.ti36 rfl (((((H.row 0 rfl).ssn (xs := P ++ X.take r ++ y :: (X.drop r ++ Q)) (enc := En.cells) hrl).cs En.len hgy).seg (i := 0) (k := 7) rfl)) (by rfl)) ?_
            clear hT; intro a hT
            refine Sx.st_run hT rfl rfl rfl rfl (Sx.y_loadS hT rfl Try.underlying36 Try.ti36 rfl (((((H.row 0 rfl).ssn (xs := P ++ X.take r ++ y :: (X.drop r ++ Q)) (enc := En.cells) hrl).cs En.len hgz).seg (i := 0) (k := 7) rfl)) (by rfl)) ?_
            clear hT; intro a hT
            refine Sx.st_take hT rfl rfl rfl rfl (Sx.x_index (k := a9 + r) hT rfl Try.underlying22 Try.ti36 (H.row 0 rfl).sv rfl rfl (by first | rfl | omega) (by omega)) ?_
            clear hT; intro a hT
            refine Sx.st_act hT rfl rfl rfl (Sx.x_storeRowS (k := a9 + r) (r := z) hT rfl Try.ti36 rfl rfl En.len En.one rfl (H.row 0 rfl) hrl (by omega)) ?_
            rintro w13 ⟨hr, E, _⟩
            replace H := H.setR 0 rfl hr E (fun _ hk => .inl hk) rfl; clear hr E
            refine Sx.st_take hT rfl rfl rfl rfl (Sx.x_index (k := a9 + r - 1) hT rfl Try.underlying22 Try.ti36 (H.row 0 rfl).sv rfl rfl (by first | rfl | omega) (by omega)) ?_
            clear hT; intro a hT
            refine Sx.st_act hT rfl rfl rfl (Sx.x_storeRowS (k := a9 + r - 1) (r := y) hT rfl Try.ti36 rfl rfl En.len En.one rfl (H.row 0 rfl) (by rw [List.length_set]; exact hrl) (by omega)) ?_
            rintro w14 ⟨hr, E, _⟩
            replace H := H.setR 0 rfl hr E (fun _ hk => .inl hk) rfl; clear hr E
            replace hT := hT.keep [110, 17, 85, 14, 15, 80, 28, 0, 1, 2, 3, 4] rfl
            refine Sx.ser_calm ?_
            refine Sx.block_normal ?_
            refine Sx.then_normal (hK36 _ _ ?_)
            clear hK36
            refine Sx.wp_text [(0, .take), (1, .take), (2, .take)] rfl ?_
            refine Sx.st_take hT rfl rfl rfl rfl (Sx.x_move hT rfl rfl) ?_
            clear hT; intro a hT
            refine Sx.st_take hT rfl rfl rfl rfl ((fun w => Sx.x_sub w hT rfl rfl rfl (Sx.wrap64 (by omega)))) ?_
            clear hT; intro a hT
            rw [show (((a9 + r : Nat) : Int) - 1) = ((a9 + (r - 1) : Nat) : Int) from by omega] at hT
            refine Sx.st_take hT rfl rfl rfl rfl (Sx.x_assign hT rfl rfl) ?_
            clear hT; intro a hT
            replace hT := hT.keep [17, 110, 85, 14, 15, 80, 28, 0, 1, 2, 3, 4] rfl
            refine Sx.ser_nil ?_
            refine Sx.then_normal ?_
            rw [set_mid (by rw [List.length_append, List.length_take]; omega), htk, show P ++ (X.take (r - 1) ++ [z]) ++ z :: (X.drop r ++ Q) = (P ++ X.take (r - 1)) ++ z :: (z :: (X.drop r ++ Q)) from by simp only [List.append_assoc, List.cons_append, List.nil_append], set_mid (by rw [List.length_append, htl]; omega), show (P ++ X.take (r - 1)) ++ y :: (z :: (X.drop r ++ Q)) = P ++ X.take (r - 1) ++ y :: (X.drop (r - 1) ++ Q) from by rw [hdl]; simp only [List.cons_append]] at H
            exact ⟨r - 1, ⟨by omega, by omega⟩, (hT.keep [17, 85, 14, 15, 80, 28, 0, 1, 2, 3, 4] rfl), (H.keep [0] rfl rfl), by show r - 1 < r; omega⟩
        · try simp only [Sx.bq] at hc35
          obtain rfl : r = p := by omega
          rw [show P ++ X.take r ++ y :: (X.drop r ++ Q) = P ++ mergeS ltE X [y] ++ Q from by rw [hone]; simp only [List.append_assoc, List.cons_append]] at H
          refine wp_exit ?_
          refine Sx.then_exit ?_
          refine Sx.then_exit ?_
          refine Sx.block_exit ?_
          refine Sx.then_normal (hK31 _ _ ?_)
          clear hK31
          refine wp_ret ?_
          refine Sx.then_ret ?_
          refine Sx.done0 (fn := Try.f97) hT rfl  ?_
          exact ⟨rfl, H.keep [0] rfl rfl⟩
    · try simp only [Sx.bq] at hc21
      refine wp_skip ?_
      refine Sx.then_normal (hK19 _ _ ?_)
      clear hK19
      refine wp_seq_k fun K37 hK37 => ?_
      refine Sx.wp_text [(0, .take), (1, .take), (2, .take), (3, .take), (4, .take), (5, .take), (6, .take)] rfl ?_
      refine Sx.st_take hT rfl rfl rfl rfl (Sx.x_move hT rfl rfl) ?_
      clear hT; intro a hT
      refine Sx.st_take hT rfl rfl rfl rfl (Sx.x_move hT rfl rfl) ?_
      clear hT; intro a hT
      refine Sx.st_take hT rfl rfl rfl rfl ((fun w => Sx.x_add w hT rfl rfl rfl (Sx.wrap64 (by omega)))) ?_
      clear hT; intro a hT
      rw [show (((a9 : Nat) : Int) + ((b9 : Nat) : Int)) = ((a9 + (b9) : Nat) : Int) from by omega] at hT
      refine Sx.st_take hT rfl rfl rfl rfl ((fun w => Sx.x_toint w hT rfl Try.underlying3 Try.underlying127 rfl (Sx.wrap_u64 (by omega) (by omega)))) ?_
      clear hT; intro a hT
      refine Sx.st_take hT rfl rfl rfl rfl (Sx.x_ushr (s := 1) hT rfl rfl rfl (by omega)) ?_
      clear hT; intro a hT
      rw [show (a9 + (b9)) / 2 ^ 1 = (a9 + b9) / 2 from by rw [show (2 : Nat) ^ 1 = 2 from rfl] <;> omega] at hT
      refine Sx.st_take hT rfl rfl rfl rfl ((fun w => Sx.x_toint w hT rfl Try.underlying127 Try.underlying3 rfl (Sx.wrap64 (by omega)))) ?_
      clear hT; intro a hT
      obtain ⟨mid, hmid⟩ : ∃ z, z = (a9 + b9) / 2 := ⟨_, rfl⟩
      rw [← hmid] at hT
      refine Sx.st_take hT rfl rfl rfl rfl (Sx.x_assign hT rfl rfl) ?_
      clear hT; intro a hT
      replace hT := hT.keep [18, 80, 28, 0, 1, 2, 3, 4] rfl
      refine Sx.ser_nil ?_
      refine Sx.then_normal (hK37 _ _ ?_)
      clear hK37
      refine wp_seq_k fun K38 hK38 => ?_
      refine Sx.wp_text [(0, .take), (1, .take), (2, .take), (3, .take)] rfl ?_
      refine Sx.st_take hT rfl rfl rfl rfl (Sx.x_move hT rfl rfl) ?_
      clear hT; intro a hT
      refine Sx.st_take hT rfl rfl rfl rfl (Sx.x_move hT rfl rfl) ?_
      clear hT; intro a hT
      refine Sx.st_take hT rfl rfl rfl rfl ((fun w => Sx.x_add w hT rfl rfl rfl (Sx.wrap64 (by omega)))) ?_
      clear hT; intro a hT
      rw [show ((mid : Int) + (m9 : Int)) = ((mid + m9 : Nat) : Int) from by omega] at hT
      refine Sx.st_take hT rfl rfl rfl rfl (Sx.x_assign hT rfl rfl) ?_
      clear hT; intro a hT
      replace hT := hT.keep [19, 18, 80, 28, 0, 1, 2, 3, 4] rfl
      refine Sx.ser_nil ?_
      refine Sx.then_normal (hK38 _ _ ?_)
      clear hK38
      refine wp_seq_k fun K39 hK39 => ?_
      refine Sx.wp_text [(0, .take), (1, .take)] rfl ?_
      refine Sx.st_take hT rfl rfl rfl rfl (Sx.x_assign hT rfl rfl) ?_
      clear hT; intro a hT
      refine Sx.st_take hT rfl rfl rfl rfl (Sx.x_assign hT rfl rfl) ?_
      clear hT; intro a hT
      replace hT := hT.keep [21, 20, 19, 18, 80, 28, 0, 1, 2, 3, 4] rfl
      refine Sx.ser_nil ?_
      refine Sx.then_normal (hK39 _ _ ?_)
      clear hK39
      refine wp_seq_k fun K40 hK40 => ?_
      refine Sx.wp_join (G := Nat × Nat) (fun ⟨lo, hi⟩ => [(20, .int .i64 (lo : Int)), (21, .int .i64 (hi : Int))]) (fun ⟨lo, hi⟩ => []) (fun ⟨lo, hi⟩ => a9 ≤ lo ∧ mid + m9 ≤ b9 + lo ∧ (lo = a9 ∨ lo = mid + m9 - b9) ∧ hi = min mid m9 ∧ lo ≤ hi) (hT.keep [19, 18, 80, 28, 0, 1, 2, 3, 4] rfl) (H.keep [0] rfl rfl) hK40 ?_ ?_
      · clear hT H hK40
        rintro ⟨lo, hi⟩ a w15 hJ hT H
        replace hT := hT.keep [20, 21, 19, 18, 80, 28, 0, 1, 2, 3, 4] rfl
        replace H := H.keep [0] rfl rfl
        obtain ⟨hlo1, hlo2, hlo3, hhi, hlh⟩ := hJ
        refine wp_seq_k fun K41 hK41 => ?_
        refine Sx.wp_text [(0, .take), (1, .take), (2, .take)] rfl ?_
        refine Sx.st_take hT rfl rfl rfl rfl (Sx.x_move hT rfl rfl) ?_
        clear hT; intro a hT
        refine Sx.st_take hT rfl rfl rfl rfl ((fun w => Sx.x_sub w hT rfl rfl rfl (Sx.wrap64 (by omega)))) ?_
        clear hT; intro a hT
        rw [show (((mid + m9 : Nat) : Int) - 1) = ((mid + m9 - 1 : Nat) : Int) from by omega] at hT
        refine Sx.st_take hT rfl rfl rfl rfl (Sx.x_assign hT rfl rfl) ?_
        clear hT; intro a hT
        replace hT := hT.keep [22, 20, 21, 19, 18, 80, 28, 0, 1, 2, 3, 4] rfl
        refine Sx.ser_nil ?_
        refine Sx.then_normal (hK41 _ _ ?_)
        clear hK41
        refine wp_seq_k fun K42 hK42 => ?_
        refine wp_block ?_
        refine Sx.wp_loopH (G := Nat × Nat) (fun ⟨s, r⟩ => [(20, .int .i64 (s : Int)), (21, .int .i64 (r : Int))]) (fun ⟨s, r⟩ => []) (fun ⟨s, r⟩ => lo ≤ s ∧ s ≤ r ∧ r ≤ hi ∧ (∀ (c : Nat) x y, lo ≤ c → c < s → X[c - a9]? = some x → Y[mid - 1 - c]? = some y → ltE y x = false) ∧ (∀ (c : Nat) x y, r ≤ c → c < hi → X[c - a9]? = some x → Y[mid - 1 - c]? = some y → ltE y x = true)) (fun ⟨s, r⟩ => r - s) (lo, hi) (hT.keep [20, 21, 22, 19, 18, 80, 28, 0, 1, 2, 3, 4] rfl) (H.keep [0] rfl rfl) (⟨Nat.le_refl _, hlh, Nat.le_refl _, fun c x y h1 h2 => by omega, fun c x y h1 h2 => by omega⟩) ?_
        clear hT H
        rintro ⟨s, r⟩ a w16 hJ hT H
        replace hT := hT.keep [20, 21, 22, 19, 18, 80, 28, 0, 1, 2, 3, 4] rfl
        replace H := H.keep [0] rfl rfl
        obtain ⟨hs1, hsr, hrh, hlt, hge⟩ := hJ
        refine wp_seq_k fun K43 hK43 => ?_
        refine wp_seq_k fun K44 hK44 => ?_
        refine Sx.wp_text [(0, .take), (1, .take), (2, .take)] rfl ?_
        refine Sx.st_take hT rfl rfl rfl rfl (Sx.x_move hT rfl rfl) ?_
        clear hT; intro a hT
        refine Sx.st_take hT rfl rfl rfl rfl (Sx.x_move hT rfl rfl) ?_
        clear hT; intro a hT
        refine Sx.st_take hT rfl rfl rfl rfl ((fun w => Sx.x_lt w hT rfl rfl rfl)) ?_
        clear hT; intro a hT
        replace hT := hT.keep [151, 20, 21, 22, 19, 18, 80, 28, 0, 1, 2, 3, 4] rfl
        refine Sx.ser_nil ?_
        refine Sx.then_normal (hK44 _ _ ?_)
        clear hK44
        refine Sx.wp_if hT rfl (fun hc45 => ?_) (fun hc45 => ?_)
        · try simp only [Sx.bq] at hc45
          obtain ⟨o, ho⟩ : ∃ z, X[(s + r) / 2 - a9]? = some z := ⟨_, List.getElem?_eq_getElem (by omega)⟩
          obtain ⟨y, hy⟩ : ∃ z, Y[mid - 1 - (s + r) / 2]? = some z := ⟨_, List.getElem?_eq_getElem (by omega)⟩
          have hgx : (P ++ X ++ Y ++ Q)[(s + r) / 2]? = some o := get_in2 ho (by omega)
          have hgy : (P ++ X ++ Y ++ Q)[m9 + (mid - 1 - (s + r) / 2)]? = some y := get_in hy (by rw [List.length_append]; omega)
          refine wp_skip ?_
          refine Sx.then_normal (hK43 _ _ ?_)
          clear hK43
          refine wp_block ?_
          refine wp_seq_k fun K46 hK46 => ?_
          refine Sx.wp_text [(0, .take), (1, .take), (2, .take), (3, .take), (4, .take), (5, .take), (6, .take)] rfl ?_
          refine Sx.st_take hT rfl rfl rfl rfl (Sx.x_move hT rfl rfl) ?_
          clear hT; intro a hT
          refine Sx.st_take hT rfl rfl rfl rfl (Sx.x_move hT rfl rfl) ?_
          clear hT; intro a hT
          refine Sx.st_take hT rfl rfl rfl rfl ((fun w => Sx.x_add w hT rfl rfl rfl (Sx.wrap64 (by omega)))) ?_
          clear hT; intro a hT
          rw [show (((s : Nat) : Int) + ((r : Nat) : Int)) = ((s + (r) : Nat) : Int) from by omega] at hT
          refine Sx.st_take hT rfl rfl rfl rfl ((fun w => Sx.x_toint w hT rfl Try.underlying3 Try.underlying127 rfl (Sx.wrap_u64 (by omega) (by omega)))) ?_
          clear hT; intro a hT
          refine Sx.st_take hT rfl rfl rfl rfl (Sx.x_ushr (s := 1) hT rfl rfl rfl (by omega)) ?_
          clear hT; intro a hT
          rw [show (s + (r)) / 2 ^ 1 = (s + r) / 2 from by rw [show (2 : Nat) ^ 1 = 2 from rfl] <;> omega] at hT
          refine Sx.st_take hT rfl rfl rfl rfl ((fun w => Sx.x_toint w hT rfl Try.underlying127 Try.underlying3 rfl (Sx.wrap64 (by omega)))) ?_
          clear hT; intro a hT
          refine Sx.st_take hT rfl rfl rfl rfl (Sx.x_assign hT rfl rfl) ?_
          clear hT; intro a hT
          replace hT := hT.keep [23, 151, 20, 21, 22, 19, 18, 80, 28, 0, 1, 2, 3, 4] rfl
          refine Sx.ser_nil ?_
          refine Sx.then_normal (hK46 _ _ ?_)
          clear hK46
          refine wp_seq_k fun K47 hK47 => ?_
          refine Sx.wp_draws (fun u => Sx.Ext (Sx.No) u) [(0, .take), (1, .take), (2, .take), (3, .take), (4, .take), (5, .take), (6, .held), (7, .take), (8, .take), (9, .take), (10, .held), (11, .run), (12, .take), (13, .take)] (by kernel_rfl) (by kernel_rfl) (fun u E _ => ?_)
          replace H := H.pure E; clear E
          have hH : Sx.Ext (Sx.No) u u := Sx.Ext.refl _ _
          have Hu := H
          refine Sx.st_take hT rfl rfl rfl rfl (Sx.x_move hT rfl rfl) ?_
          clear hT; intro a hT
          refine Sx.st_take hT rfl rfl rfl rfl (Sx.x_move hT rfl rfl) ?_
          clear hT; intro a hT
          refine Sx.st_take hT rfl rfl rfl rfl (Sx.x_move hT rfl rfl) ?_
          clear hT; intro a hT
          refine Sx.st_take hT rfl rfl rfl rfl (Sx.x_move hT rfl rfl) ?_
          clear hT; intro a hT
          refine Sx.st_take hT rfl rfl rfl rfl ((fun w => Sx.x_sub w hT rfl rfl rfl (Sx.wrap64 (by omega)))) ?_
          clear hT; intro a hT
          rw [show (((mid + m9 - 1 : Nat) : Int) - (((s + r) / 2 : Nat) : Int)) = ((m9 + (mid - 1 - (s + r) / 2) : Nat) : Int) from by omega] at hT
          refine Sx.st_take hT rfl rfl rfl rfl (Sx.x_index (k := m9 + (mid - 1 - (s + r) / 2)) hT rfl Try.underlying22 Try.ti36 (H.row 0 rfl).sv rfl rfl (by first | rfl | omega) (by omega)) ?_
          clear hT; intro a hT
          refine Sx.st_held hT rfl rfl rfl rfl hH (fun w' h' => Sx.y_loadS hT rfl Try.underlying36 Try.ti36 rfl (((((Hu.heldR 0 rfl h' Sx.off_No).ssn (xs := P ++ X ++ Y ++ Q) (enc := En.cells) hn).cs En.len hgy).seg (i := 0) (k := 7) rfl)) (by rfl)) ?_
          clear hT; intro a hT
          refine Sx.st_take hT rfl rfl rfl rfl (Sx.x_move hT rfl rfl) ?_
          clear hT; intro a hT
          refine Sx.st_take hT rfl rfl rfl rfl (Sx.x_move hT rfl rfl) ?_
          clear hT; intro a hT
          refine Sx.st_take hT rfl rfl rfl rfl (Sx.x_index (k := (s + r) / 2) hT rfl Try.underlying22 Try.ti36 (H.row 0 rfl).sv rfl rfl (by first | rfl | omega) (by omega)) ?_
          clear hT; intro a hT
          refine Sx.st_held hT rfl rfl rfl rfl hH (fun w' h' => Sx.y_loadS hT rfl Try.underlying36 Try.ti36 rfl (((((Hu.heldR 0 rfl h' Sx.off_No).ssn (xs := P ++ X ++ Y ++ Q) (enc := En.cells) hn).cs En.len hgx).seg (i := 0) (k := 7) rfl)) (by rfl)) ?_
          clear hT; intro a hT
          refine Sx.st_callV hT rfl rfl rfl rfl rfl rfl Try.can61 rfl (sorted1_calls y o _) ?_
          rintro _ w17 ⟨rfl, E⟩
          refine ⟨_, rfl, ?_⟩
          clear hT; intro a hT
          replace H := H.pure E; clear E
          refine Sx.st_take hT rfl rfl rfl rfl ((fun w => Sx.x_lt w hT rfl rfl rfl)) ?_
          clear hT; intro a hT
          refine Sx.st_take hT rfl rfl rfl rfl (Sx.x_not hT rfl rfl) ?_
          clear hT; intro a hT
          replace hT := hT.keep [171, 23, 151, 20, 21, 22, 19, 18, 80, 28, 0, 1, 2, 3, 4] rfl
          clear Hu hH
          refine Sx.ser_calm ?_
          refine Sx.then_normal (hK47 _ _ ?_)
          clear hK47
          refine Sx.wp_if hT rfl (fun hc48 => ?_) (fun hc48 => ?_)
          · try simp only [Sx.bq] at hc48
            have hox : ltE y o = false := decide_eq_false (by omega)
            refine Sx.wp_text [(0, .take), (1, .take), (2, .take)] rfl ?_
            refine Sx.st_take hT rfl rfl rfl rfl (Sx.x_move hT rfl rfl) ?_
            clear hT; intro a hT
            refine Sx.st_take hT rfl rfl rfl rfl ((fun w => Sx.x_add w hT rfl rfl rfl (Sx.wrap64 (by omega)))) ?_
            clear hT; intro a hT
            rw [show ((((s + r) / 2 : Nat) : Int) + 1) = (((s + r) / 2 + 1 : Nat) : Int) from by omega] at hT
            refine Sx.st_take hT rfl rfl rfl rfl (Sx.x_assign hT rfl rfl) ?_
            clear hT; intro a hT
            replace hT := hT.keep [20, 171, 23, 151, 21, 22, 19, 18, 80, 28, 0, 1, 2, 3, 4] rfl
            refine Sx.ser_nil ?_
            refine Sx.block_normal ?_
            refine Sx.then_normal ?_
            exact ⟨((s + r) / 2 + 1, r), ⟨by show lo ≤ (s + r) / 2 + 1; omega, by show (s + r) / 2 + 1 ≤ r; omega, hrh, fun c x y1 h1 h2 h3 h4 => by have h5 : c < (s + r) / 2 + 1 := h2; exact ltE_ord.neg (hsy.get ltE_ord (show mid - 1 - (s + r) / 2 ≤ mid - 1 - c by omega) hy h4) (ltE_ord.neg hox (hsx.get ltE_ord (show c - a9 ≤ (s + r) / 2 - a9 by omega) h3 ho)), hge⟩, (hT.keep [20, 21, 22, 19, 18, 80, 28, 0, 1, 2, 3, 4] rfl), (H.keep [0] rfl rfl), by show r - ((s + r) / 2 + 1) < r - s; omega⟩
          · try simp only [Sx.bq] at hc48
            have hox : ltE y o = true := decide_eq_true (by omega)
            refine Sx.wp_text [(0, .take), (1, .take)] rfl ?_
            refine Sx.st_take hT rfl rfl rfl rfl (Sx.x_move hT rfl rfl) ?_
            clear hT; intro a hT
            refine Sx.st_take hT rfl rfl rfl rfl (Sx.x_assign hT rfl rfl) ?_
            clear hT; intro a hT
            replace hT := hT.keep [21, 171, 23, 151, 20, 22, 19, 18, 80, 28, 0, 1, 2, 3, 4] rfl
            refine Sx.ser_nil ?_
            refine Sx.block_normal ?_
            refine Sx.then_normal ?_
            exact ⟨(s, (s + r) / 2), ⟨hs1, by show s ≤ (s + r) / 2; omega, by show (s + r) / 2 ≤ hi; omega, hlt, fun c x y1 h1 h2 h3 h4 => by have h5 : (s + r) / 2 ≤ c := h1; exact ltE_ord.mix (ltE_ord.mix2 (hsy.get ltE_ord (show mid - 1 - c ≤ mid - 1 - (s + r) / 2 by omega) h4 hy) hox) (hsx.get ltE_ord (show (s + r) / 2 - a9 ≤ c - a9 by omega) ho h3)⟩, (hT.keep [20, 21, 22, 19, 18, 80, 28, 0, 1, 2, 3, 4] rfl), (H.keep [0] rfl rfl), by show (s + r) / 2 - s < r - s; omega⟩
        · try simp only [Sx.bq] at hc45
          obtain rfl : s = r := by omega
          obtain ⟨X1, hX1⟩ : ∃ l, l = X.take (s - a9) := ⟨_, rfl⟩
          obtain ⟨X2, hX2⟩ : ∃ l, l = X.drop (s - a9) := ⟨_, rfl⟩
          obtain ⟨Y1, hY1⟩ : ∃ l, l = Y.take (mid - s) := ⟨_, rfl⟩
          obtain ⟨Y2, hY2⟩ : ∃ l, l = Y.drop (mid - s) := ⟨_, rfl⟩
          have hmg : mergeS ltE X Y = mergeS ltE X1 Y1 ++ mergeS ltE X2 Y2 := by rw [hX1, hX2, hY1, hY2]; exact sym_split ltE_ord hm hb hlo1 hlo2 hlo3 hhi hs1 (by omega) hsx hsy hlt hge
          have hX : X = X1 ++ X2 := by rw [hX1, hX2, List.take_append_drop]
          have hY : Y = Y1 ++ Y2 := by rw [hY1, hY2, List.take_append_drop]
          have l1 : X1.length = s - a9 := by rw [hX1, List.length_take]; omega
          have l2 : X2.length = m9 - s := by rw [hX2, List.length_drop]; omega
          have l3 : Y1.length = mid - s := by rw [hY1, List.length_take]; omega
          have l4 : Y2.length = Y.length - (mid - s) := by rw [hY2, List.length_drop]
          have s1 : SrtS ltE X1 := by rw [hX1]; exact hsx.take _
          have s2 : SrtS ltE X2 := by rw [hX2]; exact hsx.drop _
          have s3 : SrtS ltE Y1 := by rw [hY1]; exact hsy.take _
          have s4 : SrtS ltE Y2 := by rw [hY2]; exact hsy.drop _
          have lm : (mergeS ltE X1 Y1).length = X1.length + Y1.length := by rw [mergeS_perm.length_eq, List.length_append]
          have hnq : n = P.length + X.length + Y.length + Q.length := by rw [hn]; simp only [List.length_append]
          refine wp_exit ?_
          refine Sx.then_exit ?_
          refine Sx.then_exit ?_
          refine Sx.block_exit ?_
          refine Sx.then_normal (hK42 _ _ ?_)
          clear hK42
          refine wp_seq_k fun K49 hK49 => ?_
          refine Sx.wp_text [(0, .take), (1, .take), (2, .take), (3, .take)] rfl ?_
          refine Sx.st_take hT rfl rfl rfl rfl (Sx.x_move hT rfl rfl) ?_
          clear hT; intro a hT
          refine Sx.st_take hT rfl rfl rfl rfl (Sx.x_move hT rfl rfl) ?_
          clear hT; intro a hT
          refine Sx.st_take hT rfl rfl rfl rfl ((fun w => Sx.x_sub w hT rfl rfl rfl (Sx.wrap64 (by omega)))) ?_
          clear hT; intro a hT
          rw [show (((mid + m9 : Nat) : Int) - (s : Int)) = ((m9 + (mid - s) : Nat) : Int) from by omega] at hT
          refine Sx.st_take hT rfl rfl rfl rfl (Sx.x_assign hT rfl rfl) ?_
          clear hT; intro a hT
          replace hT := hT.keep [24, 151, 20, 21, 22, 19, 18, 80, 28, 0, 1, 2, 3, 4] rfl
          refine Sx.ser_nil ?_
          refine Sx.then_normal (hK49 _ _ ?_)
          clear hK49
          refine wp_seq_k fun K50 hK50 => ?_
          refine Sx.wp_join (G := Unit) (fun _ => []) (fun _ => [cR 36 7 ad n c ((P ++ X1 ++ Y1 ++ X2 ++ Y2 ++ Q).flatMap En.cells)]) (fun _ => True) (hT.keep [24, 151, 20, 21, 22, 19, 18, 80, 28, 0, 1, 2, 3, 4] rfl) (H.keep [] rfl rfl) hK50 ?_ ?_
          · clear hT H hK50
            rintro _ a w18 hJ hT H
            replace hT := hT.keep [24, 151, 20, 21, 22, 19, 18, 80, 28, 0, 1, 2, 3, 4] rfl
            replace H := H.keep [0] rfl rfl
            clear hJ
            refine wp_seq_k fun K51 hK51 => ?_
            refine Sx.wp_join (G := Unit) (fun _ => []) (fun _ => [cR 36 7 ad n c ((P ++ mergeS ltE X1 Y1 ++ X2 ++ Y2 ++ Q).flatMap En.cells)]) (fun _ => True) (hT.keep [24, 151, 20, 21, 22, 19, 18, 80, 28, 0, 1, 2, 3, 4] rfl) (H.keep [] rfl rfl) hK51 ?_ ?_
            · clear hT H hK51
              rintro _ a w19 hJ hT H
              replace hT := hT.keep [24, 151, 20, 21, 22, 19, 18, 80, 28, 0, 1, 2, 3, 4] rfl
              replace H := H.keep [0] rfl rfl
              clear hJ
              refine wp_seq_k fun K52 hK52 => ?_
              refine Sx.wp_text [(0, .take), (1, .take), (2, .take), (3, .take), (4, .take), (5, .take), (6, .take), (7, .take)] rfl ?_
              refine Sx.st_take hT rfl rfl rfl rfl (Sx.x_move hT rfl rfl) ?_
              clear hT; intro a hT
              refine Sx.st_take hT rfl rfl rfl rfl (Sx.x_move hT rfl rfl) ?_
              clear hT; intro a hT
              refine Sx.st_take hT rfl rfl rfl rfl ((fun w => Sx.x_lt w hT rfl rfl rfl)) ?_
              clear hT; intro a hT
              refine Sx.st_take hT rfl rfl rfl rfl (Sx.x_move hT rfl rfl) ?_
              clear hT; intro a hT
              refine Sx.Sl.two hT 209 rfl (fun hc53 hT => ?_) (fun hc53 hT => ?_)
              · try simp only [Sx.bq] at hc53
                refine Sx.st_take hT rfl rfl rfl rfl (Sx.x_move hT rfl rfl) ?_
                clear hT; intro a hT
                refine Sx.st_take hT rfl rfl rfl rfl (Sx.x_move hT rfl rfl) ?_
                clear hT; intro a hT
                refine Sx.st_take hT rfl rfl rfl rfl ((fun w => Sx.x_lt w hT rfl rfl rfl)) ?_
                clear hT; intro a hT
                refine Sx.st_take hT rfl rfl rfl rfl (Sx.x_pick_t hT rfl rfl rfl) ?_
                clear hT; intro a hT
                replace hT := hT.keep [213, 24, 151, 20, 21, 22, 19, 18, 80, 28, 0, 1, 2, 3, 4] rfl
                refine Sx.ser_nil ?_
                refine Sx.then_normal (hK52 _ _ ?_)
                clear hK52
                refine Sx.wp_if hT rfl (fun hc54 => ?_) (fun hc54 => ?_)
                · try simp only [Sx.bq] at hc54
                  refine Sx.wp_text [(0, .take), (1, .take), (2, .take), (3, .take), (4, .take), (5, .run)] rfl ?_
                  refine Sx.st_take hT rfl rfl rfl rfl (Sx.x_move hT rfl rfl) ?_
                  clear hT; intro a hT
                  refine Sx.st_take hT rfl rfl rfl rfl (Sx.x_move hT rfl rfl) ?_
                  clear hT; intro a hT
                  refine Sx.st_take hT rfl rfl rfl rfl (Sx.x_move hT rfl rfl) ?_
                  clear hT; intro a hT
                  refine Sx.st_take hT rfl rfl rfl rfl (Sx.x_move hT rfl rfl) ?_
                  clear hT; intro a hT
                  refine Sx.st_take hT rfl rfl rfl rfl (Sx.x_move hT rfl rfl) ?_
                  clear hT; intro a hT
                  refine Sx.st_call hT rfl rfl rfl rfl rfl Try.can97 rfl (ih _ (P ++ mergeS ltE X1 Y1) X2 Y2 Q mid (m9 + (mid - s)) b9 _ (by omega) (H.pre [0] rfl rfl) (by simp only [List.length_append, lm]; omega) (by rw [List.length_append, lm]; omega) (by omega) (by omega) (by omega) (by omega) s2 s4) ?_
                  rintro _ w20 ⟨rfl, K⟩
                  refine ⟨_, rfl, ?_⟩
                  clear hT; intro a hT
                  replace H := H.back [0] [] rfl rfl rfl K rfl; clear K
                  replace hT := hT.keep [213, 24, 151, 20, 21, 22, 19, 18, 80, 28, 0, 1, 2, 3, 4] rfl
                  refine Sx.ser_nil ?_
                  refine Sx.done_end ?_
                  refine Sx.done0 (fn := Try.f97) hT rfl  ?_
                  rw [hmg, ← List.append_assoc P]
                  exact ⟨rfl, H.keep [0] rfl rfl⟩
                · try simp only [Sx.bq] at hc54
                  have hsw : X2 = [] ∨ Y2 = [] := .inr (List.eq_nil_of_length_eq_zero (by omega))
                  refine wp_skip ?_
                  refine Sx.done_end ?_
                  refine Sx.done0 (fn := Try.f97) hT rfl  ?_
                  rw [show P ++ mergeS ltE X1 Y1 ++ X2 ++ Y2 ++ Q = P ++ mergeS ltE X Y ++ Q from by rw [hmg, show mergeS ltE X2 Y2 = X2 ++ Y2 from by rcases hsw with h9 | h9; rw [h9, mergeS_nil s4]; rfl; rw [h9, List.append_nil]; rfl]; simp only [List.append_assoc]] at H
                  exact ⟨rfl, H.keep [0] rfl rfl⟩
              · try simp only [Sx.bq] at hc53
                refine Sx.st_skip hT rfl rfl rfl rfl ?_
                clear hT; intro a hT
                refine Sx.st_skip hT rfl rfl rfl rfl ?_
                clear hT; intro a hT
                refine Sx.st_skip hT rfl rfl rfl rfl ?_
                clear hT; intro a hT
                refine Sx.st_take hT rfl rfl rfl rfl (Sx.x_pick_f hT rfl rfl rfl) ?_
                clear hT; intro a hT
                replace hT := hT.keep [213, 24, 151, 20, 21, 22, 19, 18, 80, 28, 0, 1, 2, 3, 4] rfl
                refine Sx.ser_nil ?_
                refine Sx.then_normal (hK52 _ _ ?_)
                clear hK52
                refine Sx.wp_if hT rfl (fun h => by cases h) (fun _ => ?_)
                have hsw : X2 = [] ∨ Y2 = [] := .inl (List.eq_nil_of_length_eq_zero (by omega))
                refine wp_skip ?_
                refine Sx.done_end ?_
                refine Sx.done0 (fn := Try.f97) hT rfl  ?_
                rw [show P ++ mergeS ltE X1 Y1 ++ X2 ++ Y2 ++ Q = P ++ mergeS ltE X Y ++ Q from by rw [hmg, show mergeS ltE X2 Y2 = X2 ++ Y2 from by rcases hsw with h9 | h9; rw [h9, mergeS_nil s4]; rfl; rw [h9, List.append_nil]; rfl]; simp only [List.append_assoc]] at H
                exact ⟨rfl, H.keep [0] rfl rfl⟩
            · clear hK51; intro hJK51
              refine wp_seq_k fun K55 hK55 => ?_
              refine Sx.wp_text [(0, .take), (1, .take), (2, .take), (3, .take), (4, .take), (5, .take), (6, .take), (7, .take)] rfl ?_
              refine Sx.st_take hT rfl rfl rfl rfl (Sx.x_move hT rfl rfl) ?_
              clear hT; intro a hT
              refine Sx.st_take hT rfl rfl rfl rfl (Sx.x_move hT rfl rfl) ?_
              clear hT; intro a hT
              refine Sx.st_take hT rfl rfl rfl rfl ((fun w => Sx.x_lt w hT rfl rfl rfl)) ?_
              clear hT; intro a hT
              refine Sx.st_take hT rfl rfl rfl rfl (Sx.x_move hT rfl rfl) ?_
              clear hT; intro a hT
              refine Sx.Sl.two hT 195 rfl (fun hc56 hT => ?_) (fun hc56 hT => ?_)
              · try simp only [Sx.bq] at hc56
                refine Sx.st_take hT rfl rfl rfl rfl (Sx.x_move hT rfl rfl) ?_
                clear hT; intro a hT
                refine Sx.st_take hT rfl rfl rfl rfl (Sx.x_move hT rfl rfl) ?_
                clear hT; intro a hT
                refine Sx.st_take hT rfl rfl rfl rfl ((fun w => Sx.x_lt w hT rfl rfl rfl)) ?_
                clear hT; intro a hT
                refine Sx.st_take hT rfl rfl rfl rfl (Sx.x_pick_t hT rfl rfl rfl) ?_
                clear hT; intro a hT
                replace hT := hT.keep [199, 24, 151, 20, 21, 22, 19, 18, 80, 28, 0, 1, 2, 3, 4] rfl
                refine Sx.ser_nil ?_
                refine Sx.then_normal (hK55 _ _ ?_)
                clear hK55
                refine Sx.wp_if hT rfl (fun hc57 => ?_) (fun hc57 => ?_)
                · try simp only [Sx.bq] at hc57
                  refine Sx.wp_text [(0, .take), (1, .take), (2, .take), (3, .take), (4, .take), (5, .run)] rfl ?_
                  refine Sx.st_take hT rfl rfl rfl rfl (Sx.x_move hT rfl rfl) ?_
                  clear hT; intro a hT
                  refine Sx.st_take hT rfl rfl rfl rfl (Sx.x_move hT rfl rfl) ?_
                  clear hT; intro a hT
                  refine Sx.st_take hT rfl rfl rfl rfl (Sx.x_move hT rfl rfl) ?_
                  clear hT; intro a hT
                  refine Sx.st_take hT rfl rfl rfl rfl (Sx.x_move hT rfl rfl) ?_
                  clear hT; intro a hT
                  refine Sx.st_take hT rfl rfl rfl rfl (Sx.x_move hT rfl rfl) ?_
                  clear hT; intro a hT
                  rw [show P ++ X1 ++ Y1 ++ X2 ++ Y2 ++ Q = P ++ X1 ++ Y1 ++ (X2 ++ Y2 ++ Q) from by simp only [List.append_assoc]] at H
                  refine Sx.st_call hT rfl rfl rfl rfl rfl Try.can97 rfl (ih _ P X1 Y1 (X2 ++ Y2 ++ Q) a9 s mid _ (by omega) (H.pre [0] rfl rfl) (by simp only [List.length_append]; omega) ha (by omega) (by omega) (by omega) (by omega) s1 s3) ?_
                  rintro _ w21 ⟨rfl, K⟩
                  refine ⟨_, rfl, ?_⟩
                  clear hT; intro a hT
                  replace H := H.back [0] [] rfl rfl rfl K rfl; clear K
                  replace hT := hT.keep [199, 24, 151, 20, 21, 22, 19, 18, 80, 28, 0, 1, 2, 3, 4] rfl
                  refine Sx.ser_nil ?_
                  rw [show P ++ mergeS ltE X1 Y1 ++ (X2 ++ Y2 ++ Q) = P ++ mergeS ltE X1 Y1 ++ X2 ++ Y2 ++ Q from by simp only [List.append_assoc]] at H
                  exact Sx.then_normal (hJK51 () _ _ trivial (hT.keep [24, 151, 20, 21, 22, 19, 18, 80, 28, 0, 1, 2, 3, 4] rfl) (H.keep [0] rfl rfl))
                · try simp only [Sx.bq] at hc57
                  have hsw : X1 = [] ∨ Y1 = [] := .inr (List.eq_nil_of_length_eq_zero (by omega))
                  refine wp_skip ?_
                  rw [show P ++ X1 ++ Y1 ++ X2 ++ Y2 ++ Q = P ++ mergeS ltE X1 Y1 ++ X2 ++ Y2 ++ Q from by rw [show mergeS ltE X1 Y1 = X1 ++ Y1 from by rcases hsw with h9 | h9; rw [h9, mergeS_nil s3]; rfl; rw [h9, List.append_nil]; rfl]; simp only [List.append_assoc]] at H
                  exact Sx.then_normal (hJK51 () _ _ trivial (hT.keep [24, 151, 20, 21, 22, 19, 18, 80, 28, 0, 1, 2, 3, 4] rfl) (H.keep [0] rfl rfl))
              · try simp only [Sx.bq] at hc56
                refine Sx.st_skip hT rfl rfl rfl rfl ?_
                clear hT; intro a hT
                refine Sx.st_skip hT rfl rfl rfl rfl ?_
                clear hT; intro a hT
                refine Sx.st_skip hT rfl rfl rfl rfl ?_
                clear hT; intro a hT
                refine Sx.st_take hT rfl rfl rfl rfl (Sx.x_pick_f hT rfl rfl rfl) ?_
                clear hT; intro a hT
                replace hT := hT.keep [199, 24, 151, 20, 21, 22, 19, 18, 80, 28, 0, 1, 2, 3, 4] rfl
                refine Sx.ser_nil ?_
                refine Sx.then_normal (hK55 _ _ ?_)
                clear hK55
                refine Sx.wp_if hT rfl (fun h => by cases h) (fun _ => ?_)
                have hsw : X1 = [] ∨ Y1 = [] := .inl (List.eq_nil_of_length_eq_zero (by omega))
                refine wp_skip ?_
                rw [show P ++ X1 ++ Y1 ++ X2 ++ Y2 ++ Q = P ++ mergeS ltE X1 Y1 ++ X2 ++ Y2 ++ Q from by rw [show mergeS ltE X1 Y1 = X1 ++ Y1 from by rcases hsw with h9 | h9; rw [h9, mergeS_nil s3]; rfl; rw [h9, List.append_nil]; rfl]; simp only [List.append_assoc]] at H
                exact Sx.then_normal (hJK51 () _ _ trivial (hT.keep [24, 151, 20, 21, 22, 19, 18, 80, 28, 0, 1, 2, 3, 4] rfl) (H.keep [0] rfl rfl))
          · clear hK50; intro hJK50
            refine wp_seq_k fun K58 hK58 => ?_
            refine Sx.wp_text [(0, .take), (1, .take), (2, .take), (3, .take), (4, .take), (5, .take), (6, .take), (7, .take)] rfl ?_
            refine Sx.st_take hT rfl rfl rfl rfl (Sx.x_move hT rfl rfl) ?_
            clear hT; intro a hT
            refine Sx.st_take hT rfl rfl rfl rfl (Sx.x_move hT rfl rfl) ?_
            clear hT; intro a hT
            refine Sx.st_take hT rfl rfl rfl rfl ((fun w => Sx.x_lt w hT rfl rfl rfl)) ?_
            clear hT; intro a hT
            refine Sx.st_take hT rfl rfl rfl rfl (Sx.x_move hT rfl rfl) ?_
            clear hT; intro a hT
            refine Sx.Sl.two hT 181 rfl (fun hc59 hT => ?_) (fun hc59 hT => ?_)
            · try simp only [Sx.bq] at hc59
              refine Sx.st_take hT rfl rfl rfl rfl (Sx.x_move hT rfl rfl) ?_
              clear hT; intro a hT
              refine Sx.st_take hT rfl rfl rfl rfl (Sx.x_move hT rfl rfl) ?_
              clear hT; intro a hT
              refine Sx.st_take hT rfl rfl rfl rfl ((fun w => Sx.x_lt w hT rfl rfl rfl)) ?_
              clear hT; intro a hT
              refine Sx.st_take hT rfl rfl rfl rfl (Sx.x_pick_t hT rfl rfl rfl) ?_
              clear hT; intro a hT
              replace hT := hT.keep [185, 24, 151, 20, 21, 22, 19, 18, 80, 28, 0, 1, 2, 3, 4] rfl
              refine Sx.ser_nil ?_
              refine Sx.then_normal (hK58 _ _ ?_)
              clear hK58
              refine Sx.wp_if hT rfl (fun hc60 => ?_) (fun hc60 => ?_)
              · try simp only [Sx.bq] at hc60
                skip
                refine Sx.wp_text [(0, .take), (1, .take), (2, .take), (3, .take), (4, .take), (5, .run)] rfl ?_
                refine Sx.st_take hT rfl rfl rfl rfl (Sx.x_move hT rfl rfl) ?_
                clear hT; intro a hT
                refine Sx.st_take hT rfl rfl rfl rfl (Sx.x_move hT rfl rfl) ?_
                clear hT; intro a hT
                refine Sx.st_take hT rfl rfl rfl rfl (Sx.x_move hT rfl rfl) ?_
                clear hT; intro a hT
                refine Sx.st_take hT rfl rfl rfl rfl (Sx.x_move hT rfl rfl) ?_
                clear hT; intro a hT
                refine Sx.st_take hT rfl rfl rfl rfl (Sx.x_move hT rfl rfl) ?_
                clear hT; intro a hT
                rw [show P ++ X ++ Y ++ Q = P ++ X1 ++ X2 ++ Y1 ++ (Y2 ++ Q) from by rw [hX, hY]; simp only [List.append_assoc]] at H
                refine Sx.st_call hT rfl rfl rfl rfl rfl Try.can103 rfl (rotate_calls (P ++ X1) X2 Y1 (Y2 ++ Q) (H.pre [0] rfl rfl) (by simp only [List.length_append]; omega) (by rw [List.length_append]; omega) (by omega) (by omega) (by omega) (by omega) hl) ?_
                rintro _ w22 ⟨rfl, K⟩
                refine ⟨_, rfl, ?_⟩
                clear hT; intro a hT
                replace H := H.back [0] [] rfl rfl rfl K rfl; clear K
                replace hT := hT.keep [185, 24, 151, 20, 21, 22, 19, 18, 80, 28, 0, 1, 2, 3, 4] rfl
                refine Sx.ser_nil ?_
                rw [show P ++ X1 ++ Y1 ++ X2 ++ (Y2 ++ Q) = P ++ X1 ++ Y1 ++ X2 ++ Y2 ++ Q from by simp only [List.append_assoc]] at H
                exact Sx.then_normal (hJK50 () _ _ trivial (hT.keep [24, 151, 20, 21, 22, 19, 18, 80, 28, 0, 1, 2, 3, 4] rfl) (H.keep [0] rfl rfl))
              · try simp only [Sx.bq] at hc60
                have hsw : X2 = [] ∨ Y1 = [] := .inr (List.eq_nil_of_length_eq_zero (by omega))
                refine wp_skip ?_
                rw [show P ++ X ++ Y ++ Q = P ++ X1 ++ Y1 ++ X2 ++ Y2 ++ Q from by rw [hX, hY]; rcases hsw with h9 | h9 <;> rw [h9] <;> simp only [List.append_assoc, List.nil_append, List.append_nil]] at H
                exact Sx.then_normal (hJK50 () _ _ trivial (hT.keep [24, 151, 20, 21, 22, 19, 18, 80, 28, 0, 1, 2, 3, 4] rfl) (H.keep [0] rfl rfl))
            · try simp only [Sx.bq] at hc59
              refine Sx.st_skip hT rfl rfl rfl rfl ?_
              clear hT; intro a hT
              refine Sx.st_skip hT rfl rfl rfl rfl ?_
              clear hT; intro a hT
              refine Sx.st_skip hT rfl rfl rfl rfl ?_
              clear hT; intro a hT
              refine Sx.st_take hT rfl rfl rfl rfl (Sx.x_pick_f hT rfl rfl rfl) ?_
              clear hT; intro a hT
              replace hT := hT.keep [185, 24, 151, 20, 21, 22, 19, 18, 80, 28, 0, 1, 2, 3, 4] rfl
              refine Sx.ser_nil ?_
              refine Sx.then_normal (hK58 _ _ ?_)
              clear hK58
              refine Sx.wp_if hT rfl (fun h => by cases h) (fun _ => ?_)
              have hsw : X2 = [] ∨ Y1 = [] := .inl (List.eq_nil_of_length_eq_zero (by omega))
              refine wp_skip ?_
              rw [show P ++ X ++ Y ++ Q = P ++ X1 ++ Y1 ++ X2 ++ Y2 ++ Q from by rw [hX, hY]; rcases hsw with h9 | h9 <;> rw [h9] <;> simp only [List.append_assoc, List.nil_append, List.append_nil]] at H
              exact Sx.then_normal (hJK50 () _ _ trivial (hT.keep [24, 151, 20, 21, 22, 19, 18, 80, 28, 0, 1, 2, 3, 4] rfl) (H.keep [0] rfl rfl))
      · clear hK40; intro hJK40
        refine wp_seq_k fun K61 hK61 => ?_
        refine Sx.wp_text [(0, .take), (1, .take), (2, .take)] rfl ?_
        refine Sx.st_take hT rfl rfl rfl rfl (Sx.x_move hT rfl rfl) ?_
        clear hT; intro a hT
        refine Sx.st_take hT rfl rfl rfl rfl (Sx.x_move hT rfl rfl) ?_
        clear hT; intro a hT
        refine Sx.st_take hT rfl rfl rfl rfl ((fun w => Sx.x_gt w hT rfl rfl rfl)) ?_
        clear hT; intro a hT
        replace hT := hT.keep [140, 21, 20, 19, 18, 80, 28, 0, 1, 2, 3, 4] rfl
        refine Sx.ser_nil ?_
        refine Sx.then_normal (hK61 _ _ ?_)
        clear hK61
        refine Sx.wp_if hT rfl (fun hc62 => ?_) (fun hc62 => ?_)
        · try simp only [Sx.bq] at hc62
          have hmm : mid < m9 := by omega
          refine wp_seq_k fun K63 hK63 => ?_
          refine Sx.wp_text [(0, .take), (1, .take), (2, .take), (3, .take)] rfl ?_
          refine Sx.st_take hT rfl rfl rfl rfl (Sx.x_move hT rfl rfl) ?_
          clear hT; intro a hT
          refine Sx.st_take hT rfl rfl rfl rfl (Sx.x_move hT rfl rfl) ?_
          clear hT; intro a hT
          refine Sx.st_take hT rfl rfl rfl rfl ((fun w => Sx.x_sub w hT rfl rfl rfl (Sx.wrap64 (by omega)))) ?_
          clear hT; intro a hT
          rw [show (((mid + m9 : Nat) : Int) - (b9 : Int)) = ((mid + m9 - b9 : Nat) : Int) from by omega] at hT
          refine Sx.st_take hT rfl rfl rfl rfl (Sx.x_assign hT rfl rfl) ?_
          clear hT; intro a hT
          replace hT := hT.keep [20, 140, 21, 19, 18, 80, 28, 0, 1, 2, 3, 4] rfl
          refine Sx.ser_nil ?_
          refine Sx.then_normal (hK63 _ _ ?_)
          clear hK63
          refine Sx.wp_text [(0, .take), (1, .take)] rfl ?_
          refine Sx.st_take hT rfl rfl rfl rfl (Sx.x_move hT rfl rfl) ?_
          clear hT; intro a hT
          refine Sx.st_take hT rfl rfl rfl rfl (Sx.x_assign hT rfl rfl) ?_
          clear hT; intro a hT
          replace hT := hT.keep [21, 20, 140, 19, 18, 80, 28, 0, 1, 2, 3, 4] rfl
          refine Sx.ser_nil ?_
          exact Sx.then_normal (hJK40 (mid + m9 - b9, mid) _ _ ⟨by omega, by omega, by omega, by omega, by omega⟩ (hT.keep [20, 21, 19, 18, 80, 28, 0, 1, 2, 3, 4] rfl) (H.keep [0] rfl rfl))
        · try simp only [Sx.bq] at hc62
          have hmm : m9 ≤ mid := by omega
          refine wp_seq_k fun K64 hK64 => ?_
          refine Sx.wp_text [(0, .take), (1, .take)] rfl ?_
          refine Sx.st_take hT rfl rfl rfl rfl (Sx.x_move hT rfl rfl) ?_
          clear hT; intro a hT
          refine Sx.st_take hT rfl rfl rfl rfl (Sx.x_assign hT rfl rfl) ?_
          clear hT; intro a hT
          replace hT := hT.keep [20, 140, 21, 19, 18, 80, 28, 0, 1, 2, 3, 4] rfl
          refine Sx.ser_nil ?_
          refine Sx.then_normal (hK64 _ _ ?_)
          clear hK64
          refine Sx.wp_text [(0, .take), (1, .take)] rfl ?_
          refine Sx.st_take hT rfl rfl rfl rfl (Sx.x_move hT rfl rfl) ?_
          clear hT; intro a hT
          refine Sx.st_take hT rfl rfl rfl rfl (Sx.x_assign hT rfl rfl) ?_
          clear hT; intro a hT
          replace hT := hT.keep [21, 20, 140, 19, 18, 80, 28, 0, 1, 2, 3, 4] rfl
          refine Sx.ser_nil ?_
          exact Sx.then_normal (hJK40 (a9, m9) _ _ ⟨by omega, by omega, by omega, by omega, by omega⟩ (hT.keep [20, 21, 19, 18, 80, 28, 0, 1, 2, 3, 4] rfl) (H.keep [0] rfl rfl))

theorem sym_all {ad : Option Addr} {n c : Nat} (hl : n ≤ 1000000) : ∀ N, SymAt ad n c N
  | 0 => fun S P X Y Q a9 m9 b9 w h => absurd h (Nat.not_lt_zero _)
  | N + 1 => fun S P X Y Q a9 m9 b9 w h H hn ha hm hb hx hy sx sy => sym_step P X Y Q (fun S2 P2 X2 Y2 Q2 a2 m2 b2 w2 h2 => sym_all hl N S2 P2 X2 Y2 Q2 a2 m2 b2 w2 (by omega)) H hn ha hm hb hx hy sx sy hl

end Go.Proofs.Ytpggijfpkgglmaa
