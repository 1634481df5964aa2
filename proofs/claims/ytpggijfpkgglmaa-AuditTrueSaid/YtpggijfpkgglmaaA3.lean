/- Walks: the stable sort. -/
import Derived.Test.YtpggijfpkgglmaaA2
set_option linter.unusedSimpArgs false
set_option linter.unusedVariables false
namespace Go.Proofs.Ytpggijfpkgglmaa
open Sx
theorem Try.can79 : Sx.Can Try.prog 79 := ⟨_, Try.func79, by kernel_rfl, rfl⟩
def bks {α : Type} (lt : α → α → Bool) (s : Nat) : Nat → List α → List α
  | 0, L => ordS lt L
  | f + 1, L => if L.length ≤ s then ordS lt L else ordS lt (L.take s) ++ bks lt s f (L.drop s)
theorem bks_fuel {α : Type} {lt : α → α → Bool} {s : Nat} (hs : 1 ≤ s) : ∀ (f g : Nat) (L : List α), L.length ≤ f → L.length ≤ g → bks lt s f L = bks lt s g L
  | 0, 0, L, _, _ => rfl
  | 0, g + 1, L, h, _ => by unfold bks; rw [if_pos (by omega)]
  | f + 1, 0, L, _, h => by unfold bks; rw [if_pos (by omega)]
  | f + 1, g + 1, L, h1, h2 => by
    unfold bks
    split
    · rfl
    · rw [bks_fuel hs f g (L.drop s) (by rw [List.length_drop]; omega) (by rw [List.length_drop]; omega)]
/-- each stretch of s in its order -/
def bk {α : Type} (lt : α → α → Bool) (s : Nat) (L : List α) : List α := bks lt s L.length L
theorem bk_end {α : Type} {lt : α → α → Bool} {s : Nat} {L : List α} (h : L.length ≤ s) : bk lt s L = ordS lt L := by
  unfold bk
  cases hL : L.length with
  | zero => rfl
  | succ f => unfold bks; rw [if_pos h]
theorem bk_step {α : Type} {lt : α → α → Bool} {s : Nat} {L : List α} (hs : 1 ≤ s) (h : s ≤ L.length) : bk lt s L = ordS lt (L.take s) ++ bk lt s (L.drop s) := by
  rcases Nat.lt_or_ge s L.length with h1 | h1
  · obtain ⟨f, hf⟩ : ∃ f, L.length = f + 1 := ⟨L.length - 1, by omega⟩
    show bks lt s L.length L = _
    rw [hf]
    show (if L.length ≤ s then ordS lt L else ordS lt (L.take s) ++ bks lt s f (L.drop s)) = _
    rw [if_neg (by omega), bks_fuel hs f (L.drop s).length (L.drop s) (by rw [List.length_drop]; omega) (Nat.le_refl _)]
    rfl
  · rw [bk_end h1, List.take_of_length_le h1, List.drop_eq_nil_of_le h1]
    show _ = ordS lt L ++ []
    rw [List.append_nil]
theorem bks_len {α : Type} {lt : α → α → Bool} {s : Nat} : ∀ (f : Nat) (L : List α), (bks lt s f L).length = L.length
  | 0, L => (ordS_perm L).length_eq
  | f + 1, L => by
    unfold bks
    split
    · exact (ordS_perm L).length_eq
    · rw [List.length_append, (ordS_perm _).length_eq, bks_len f, List.length_take, List.length_drop]; omega
theorem bk_len {α : Type} {lt : α → α → Bool} {s : Nat} (L : List α) : (bk lt s L).length = L.length := bks_len _ _
theorem bk_two {α : Type} {lt : α → α → Bool} {s : Nat} {R : List α} (hs : 1 ≤ s) (h : 2 * s ≤ R.length) : bk lt s R = ordS lt (R.take s) ++ ordS lt ((R.drop s).take s) ++ bk lt s (R.drop (2 * s)) := by
  rw [bk_step hs (by omega), bk_step (L := R.drop s) hs (by rw [List.length_drop]; omega), List.drop_drop, List.append_assoc, show s + s = 2 * s from by omega]
theorem ord_two {α : Type} {lt : α → α → Bool} (o : Ord lt) {s : Nat} {R : List α} : mergeS lt (ordS lt (R.take s)) (ordS lt ((R.drop s).take s)) = ordS lt (R.take (2 * s)) := by
  rw [← ordS_app o, show 2 * s = s + s from by omega, List.take_add]
theorem ordS_len {α : Type} {lt : α → α → Bool} (l : List α) : (ordS lt l).length = l.length := (ordS_perm l).length_eq

set_option maxHeartbeats 1000000 in
theorem stable_calls {S : Nat → Prop} {ad : Option Addr} {n c : Nat} (L : List En) {w : World} (H : Hp w S w [cR 36 7 ad n c ((L).flatMap En.cells)]) (hn : n = L.length) (hl : n ≤ 1000000) : Calls Try.prog 79 #[.slice ad n c, .int .i64 (n : Int), .func (.func 61) #[] #[]] w fun e w' => e = .returned (.tuple #[]) ∧ Hp w S w' [cR 36 7 ad n c ((ordS ltE L).flatMap En.cells)] := by
  refine Sx.calls_into Try.func79 rfl Try.ntmps79 rfl fun a hT => ?_
  replace hT := hT.keep [0, 1, 2] rfl
  refine wp_seq_k fun K1 hK1 => ?_
  refine Sx.wp_text [(0, .take)] rfl ?_
  refine Sx.st_take hT rfl rfl rfl rfl (Sx.x_assign hT rfl rfl) ?_
  clear hT; intro a hT
  replace hT := hT.keep [6, 0, 1, 2] rfl
  refine Sx.ser_nil ?_
  refine Sx.then_normal (hK1 _ _ ?_)
  clear hK1
  refine wp_seq_k fun K2 hK2 => ?_
  refine Sx.wp_text [(0, .take), (1, .take), (2, .take)] rfl ?_
  refine Sx.st_take hT rfl rfl rfl rfl (Sx.x_move hT rfl rfl) ?_
  clear hT; intro a hT
  refine Sx.st_take hT rfl rfl rfl rfl (Sx.x_assign hT rfl rfl) ?_
  clear hT; intro a hT
  refine Sx.st_take hT rfl rfl rfl rfl (Sx.x_assign hT rfl rfl) ?_
  clear hT; intro a hT
  replace hT := hT.keep [8, 7, 6, 0, 1, 2] rfl
  refine Sx.ser_nil ?_
  refine Sx.then_normal (hK2 _ _ ?_)
  clear hK2
  refine wp_seq_k fun K3 hK3 => ?_
  refine wp_block ?_
  refine Sx.wp_loopH (G := Nat × List En × List En) (fun ⟨a9, P, R⟩ => [(7, .int .i64 (a9 : Int)), (8, .int .i64 ((a9 + 20 : Nat) : Int))]) (fun ⟨a9, P, R⟩ => [cR 36 7 ad n c ((P ++ R).flatMap En.cells)]) (fun ⟨a9, P, R⟩ => a9 = P.length ∧ P.length + R.length = n ∧ P ++ bk ltE 20 R = bk ltE 20 L) (fun ⟨a9, P, R⟩ => n - a9) (0, [], L) (hT.keep [7, 8, 6, 0, 1, 2] rfl) (H.keep [0] rfl rfl) (⟨rfl, by rw [hn]; simp, rfl⟩) ?_
  clear hT H
  rintro ⟨a9, P, R⟩ a w1 hJ hT H
  replace hT := hT.keep [7, 8, 6, 0, 1, 2] rfl
  replace H := H.keep [0] rfl rfl
  obtain ⟨ha, hnJ, hF⟩ := hJ
  refine wp_seq_k fun K4 hK4 => ?_
  refine wp_seq_k fun K5 hK5 => ?_
  refine Sx.wp_text [(0, .take), (1, .take), (2, .take)] rfl ?_
  refine Sx.st_take hT rfl rfl rfl rfl (Sx.x_move hT rfl rfl) ?_
  clear hT; intro a hT
  refine Sx.st_take hT rfl rfl rfl rfl (Sx.x_move hT rfl rfl) ?_
  clear hT; intro a hT
  refine Sx.st_take hT rfl rfl rfl rfl ((fun w => Sx.x_le w hT rfl rfl rfl)) ?_
  clear hT; intro a hT
  replace hT := hT.keep [13, 7, 8, 6, 0, 1, 2] rfl
  refine Sx.ser_nil ?_
  refine Sx.then_normal (hK5 _ _ ?_)
  clear hK5
  refine Sx.wp_if hT rfl (fun hc6 => ?_) (fun hc6 => ?_)
  · try simp only [Sx.bq] at hc6
    refine wp_skip ?_
    refine Sx.then_normal (hK4 _ _ ?_)
    clear hK4
    refine wp_block ?_
    refine wp_seq_k fun K7 hK7 => ?_
    refine Sx.wp_text [(0, .take), (1, .take), (2, .take), (3, .take), (4, .run)] rfl ?_
    refine Sx.st_take hT rfl rfl rfl rfl (Sx.x_move hT rfl rfl) ?_
    clear hT; intro a hT
    refine Sx.st_take hT rfl rfl rfl rfl (Sx.x_move hT rfl rfl) ?_
    clear hT; intro a hT
    refine Sx.st_take hT rfl rfl rfl rfl (Sx.x_move hT rfl rfl) ?_
    clear hT; intro a hT
    refine Sx.st_take hT rfl rfl rfl rfl (Sx.x_move hT rfl rfl) ?_
    clear hT; intro a hT
    rw [show P ++ R = P ++ R.take 20 ++ R.drop 20 from by rw [List.append_assoc, List.take_append_drop]] at H
    refine Sx.st_call hT rfl rfl rfl rfl rfl Try.can96 rfl (insert_calls P (R.take 20) (R.drop 20) (H.pre [0] rfl rfl) (by simp only [List.length_append, List.length_take, List.length_drop]; omega) ha (by rw [List.length_take]; omega) hl) ?_
    rintro _ w2 ⟨rfl, K⟩
    refine ⟨_, rfl, ?_⟩
    clear hT; intro a hT
    replace H := H.back [0] [] rfl rfl rfl K rfl; clear K
    replace hT := hT.keep [13, 7, 8, 6, 0, 1, 2] rfl
    refine Sx.ser_nil ?_
    refine Sx.then_normal (hK7 _ _ ?_)
    clear hK7
    refine wp_seq_k fun K8 hK8 => ?_
    refine Sx.wp_text [(0, .take), (1, .take)] rfl ?_
    refine Sx.st_take hT rfl rfl rfl rfl (Sx.x_move hT rfl rfl) ?_
    clear hT; intro a hT
    refine Sx.st_take hT rfl rfl rfl rfl (Sx.x_assign hT rfl rfl) ?_
    clear hT; intro a hT
    replace hT := hT.keep [7, 13, 8, 6, 0, 1, 2] rfl
    refine Sx.ser_nil ?_
    refine Sx.then_normal (hK8 _ _ ?_)
    clear hK8
    refine Sx.wp_text [(0, .take), (1, .take), (2, .take), (3, .take)] rfl ?_
    refine Sx.st_take hT rfl rfl rfl rfl (Sx.x_move hT rfl rfl) ?_
    clear hT; intro a hT
    refine Sx.st_take hT rfl rfl rfl rfl (Sx.x_move hT rfl rfl) ?_
    clear hT; intro a hT
    refine Sx.st_take hT rfl rfl rfl rfl ((fun w => Sx.x_add w hT rfl rfl rfl (Sx.wrap64 (by omega)))) ?_
    clear hT; intro a hT
    rw [show (((a9 + 20 : Nat) : Int) + 20) = ((a9 + 20 + 20 : Nat) : Int) from by omega] at hT
    refine Sx.st_take hT rfl rfl rfl rfl (Sx.x_assign hT rfl rfl) ?_
    clear hT; intro a hT
    replace hT := hT.keep [8, 7, 13, 6, 0, 1, 2] rfl
    refine Sx.ser_nil ?_
    refine Sx.block_normal ?_
    refine Sx.then_normal ?_
    exact ⟨(a9 + 20, P ++ ordS ltE (R.take 20), R.drop 20), ⟨by show a9 + 20 = (P ++ _).length; rw [List.length_append, ordS_len, List.length_take]; omega, by show (P ++ _).length + (R.drop 20).length = n; rw [List.length_append, ordS_len, List.length_take, List.length_drop]; omega, by show P ++ _ ++ bk ltE 20 (R.drop 20) = _; rw [List.append_assoc, ← bk_step (by decide) (by omega), hF]⟩, (hT.keep [7, 8, 6, 0, 1, 2] rfl), (H.keep [0] rfl rfl), by show n - (a9 + 20) < n - a9; omega⟩
  · try simp only [Sx.bq] at hc6
    have hfin : P ++ ordS ltE R = bk ltE 20 L := by rw [← hF, bk_end (by omega)]
    refine wp_exit ?_
    refine Sx.then_exit ?_
    refine Sx.then_exit ?_
    refine Sx.block_exit ?_
    refine Sx.then_normal (hK3 _ _ ?_)
    clear hK3
    refine wp_seq_k fun K9 hK9 => ?_
    refine Sx.wp_text [(0, .take), (1, .take), (2, .take), (3, .take), (4, .run)] rfl ?_
    refine Sx.st_take hT rfl rfl rfl rfl (Sx.x_move hT rfl rfl) ?_
    clear hT; intro a hT
    refine Sx.st_take hT rfl rfl rfl rfl (Sx.x_move hT rfl rfl) ?_
    clear hT; intro a hT
    refine Sx.st_take hT rfl rfl rfl rfl (Sx.x_move hT rfl rfl) ?_
    clear hT; intro a hT
    refine Sx.st_take hT rfl rfl rfl rfl (Sx.x_move hT rfl rfl) ?_
    clear hT; intro a hT
    rw [← List.append_nil (P ++ R)] at H
    refine Sx.st_call hT rfl rfl rfl rfl rfl Try.can96 rfl (insert_calls P R [] (H.pre [0] rfl rfl) (by simp only [List.length_append, List.length_nil]; omega) ha (by omega) hl) ?_
    rintro _ w3 ⟨rfl, K⟩
    refine ⟨_, rfl, ?_⟩
    clear hT; intro a hT
    replace H := H.back [0] [] rfl rfl rfl K rfl; clear K
    rw [List.append_nil, hfin] at H
    replace hT := hT.keep [13, 7, 8, 6, 0, 1, 2] rfl
    refine Sx.ser_nil ?_
    refine Sx.then_normal (hK9 _ _ ?_)
    clear hK9
    refine wp_block ?_
    refine Sx.wp_loopH (G := Nat) (fun s => [(6, .int .i64 (s : Int))]) (fun s => [cR 36 7 ad n c ((bk ltE s L).flatMap En.cells)]) (fun s => 1 ≤ s ∧ s ≤ 2 * n + 20) (fun s => n - s) 20 (hT.keep [6, 13, 0, 1, 2] rfl) (H.keep [0] rfl rfl) (⟨by decide, by omega⟩) ?_
    clear hT H
    rintro s a w4 hJ hT H
    replace hT := hT.keep [6, 13, 0, 1, 2] rfl
    replace H := H.keep [0] rfl rfl
    obtain ⟨hs1, hs2⟩ := hJ
    refine wp_seq_k fun K10 hK10 => ?_
    refine wp_seq_k fun K11 hK11 => ?_
    refine Sx.wp_text [(0, .take), (1, .take), (2, .take)] rfl ?_
    refine Sx.st_take hT rfl rfl rfl rfl (Sx.x_move hT rfl rfl) ?_
    clear hT; intro a hT
    refine Sx.st_take hT rfl rfl rfl rfl (Sx.x_move hT rfl rfl) ?_
    clear hT; intro a hT
    refine Sx.st_take hT rfl rfl rfl rfl ((fun w => Sx.x_lt w hT rfl rfl rfl)) ?_
    clear hT; intro a hT
    replace hT := hT.keep [30, 6, 13, 0, 1, 2] rfl
    refine Sx.ser_nil ?_
    refine Sx.then_normal (hK11 _ _ ?_)
    clear hK11
    refine Sx.wp_if hT rfl (fun hc12 => ?_) (fun hc12 => ?_)
    · try simp only [Sx.bq] at hc12
      refine wp_skip ?_
      refine Sx.then_normal (hK10 _ _ ?_)
      clear hK10
      refine wp_block ?_
      refine wp_seq_k fun K13 hK13 => ?_
      refine Sx.wp_text [(0, .take), (1, .take), (2, .take), (3, .take)] rfl ?_
      refine Sx.st_take hT rfl rfl rfl rfl (Sx.x_move hT rfl rfl) ?_
      clear hT; intro a hT
      refine Sx.st_take hT rfl rfl rfl rfl ((fun w => Sx.x_mul w hT rfl rfl rfl (Sx.wrap64 (by omega)))) ?_
      clear hT; intro a hT
      rw [show ((2 : Int) * (s : Int)) = ((0 + 2 * s : Nat) : Int) from by omega] at hT
      refine Sx.st_take hT rfl rfl rfl rfl (Sx.x_assign hT rfl rfl) ?_
      clear hT; intro a hT
      refine Sx.st_take hT rfl rfl rfl rfl (Sx.x_assign hT rfl rfl) ?_
      clear hT; intro a hT
      replace hT := hT.keep [8, 7, 30, 6, 13, 0, 1, 2] rfl
      refine Sx.ser_nil ?_
      refine Sx.then_normal (hK13 _ _ ?_)
      clear hK13
      refine wp_seq_k fun K14 hK14 => ?_
      refine wp_block ?_
      refine Sx.wp_loopH (G := Nat × List En × List En) (fun ⟨a9, P, R⟩ => [(7, .int .i64 (a9 : Int)), (8, .int .i64 ((a9 + 2 * s : Nat) : Int))]) (fun ⟨a9, P, R⟩ => [cR 36 7 ad n c ((P ++ bk ltE s R).flatMap En.cells)]) (fun ⟨a9, P, R⟩ => a9 = P.length ∧ P.length + R.length = n ∧ P ++ bk ltE (2 * s) R = bk ltE (2 * s) L) (fun ⟨a9, P, R⟩ => n - a9) (0, [], L) (hT.keep [7, 8, 30, 6, 13, 0, 1, 2] rfl) (H.keep [0] rfl rfl) (⟨rfl, by rw [hn]; simp, rfl⟩) ?_
      clear hT H
      rintro ⟨a9, P, R⟩ a w5 hJ hT H
      replace hT := hT.keep [7, 8, 30, 6, 13, 0, 1, 2] rfl
      replace H := H.keep [0] rfl rfl
      obtain ⟨ha, hnJ, hF⟩ := hJ
      refine wp_seq_k fun K15 hK15 => ?_
      refine wp_seq_k fun K16 hK16 => ?_
      refine Sx.wp_text [(0, .take), (1, .take), (2, .take)] rfl ?_
      refine Sx.st_take hT rfl rfl rfl rfl (Sx.x_move hT rfl rfl) ?_
      clear hT; intro a hT
      refine Sx.st_take hT rfl rfl rfl rfl (Sx.x_move hT rfl rfl) ?_
      clear hT; intro a hT
      refine Sx.st_take hT rfl rfl rfl rfl ((fun w => Sx.x_le w hT rfl rfl rfl)) ?_
      clear hT; intro a hT
      replace hT := hT.keep [35, 7, 8, 30, 6, 13, 0, 1, 2] rfl
      refine Sx.ser_nil ?_
      refine Sx.then_normal (hK16 _ _ ?_)
      clear hK16
      refine Sx.wp_if hT rfl (fun hc17 => ?_) (fun hc17 => ?_)
      · try simp only [Sx.bq] at hc17
        refine wp_skip ?_
        refine Sx.then_normal (hK15 _ _ ?_)
        clear hK15
        refine wp_block ?_
        refine wp_seq_k fun K18 hK18 => ?_
        refine Sx.wp_text [(0, .take), (1, .take), (2, .take), (3, .take), (4, .take), (5, .take), (6, .take), (7, .run)] rfl ?_
        refine Sx.st_take hT rfl rfl rfl rfl (Sx.x_move hT rfl rfl) ?_
        clear hT; intro a hT
        refine Sx.st_take hT rfl rfl rfl rfl (Sx.x_move hT rfl rfl) ?_
        clear hT; intro a hT
        refine Sx.st_take hT rfl rfl rfl rfl (Sx.x_move hT rfl rfl) ?_
        clear hT; intro a hT
        refine Sx.st_take hT rfl rfl rfl rfl (Sx.x_move hT rfl rfl) ?_
        clear hT; intro a hT
        refine Sx.st_take hT rfl rfl rfl rfl ((fun w => Sx.x_add w hT rfl rfl rfl (Sx.wrap64 (by omega)))) ?_
        clear hT; intro a hT
        rw [show ((a9 : Int) + (s : Int)) = ((a9 + s : Nat) : Int) from by omega] at hT
        refine Sx.st_take hT rfl rfl rfl rfl (Sx.x_move hT rfl rfl) ?_
        clear hT; intro a hT
        refine Sx.st_take hT rfl rfl rfl rfl (Sx.x_move hT rfl rfl) ?_
        clear hT; intro a hT
        have hnq : n = (P ++ ordS ltE (R.take s) ++ ordS ltE ((R.drop s).take s) ++ bk ltE s (R.drop (2 * s))).length := by simp only [List.length_append, ordS_len, bk_len, List.length_take, List.length_drop]; omega
        rw [show P ++ bk ltE s R = P ++ ordS ltE (R.take s) ++ ordS ltE ((R.drop s).take s) ++ bk ltE s (R.drop (2 * s)) from by rw [bk_two hs1 (by omega)]; simp only [List.append_assoc]] at H
        refine Sx.st_call hT rfl rfl rfl rfl rfl Try.can97 rfl (sym_all hl _ _ P (ordS ltE (R.take s)) (ordS ltE ((R.drop s).take s)) (bk ltE s (R.drop (2 * s))) a9 (a9 + s) (a9 + 2 * s) _ (Nat.lt_succ_self _) (H.pre [0] rfl rfl) hnq ha (by rw [ordS_len, List.length_take]; omega) (by rw [ordS_len, List.length_take, List.length_drop]; omega) (by rw [ordS_len, List.length_take]; omega) (by rw [ordS_len, List.length_take, List.length_drop]; omega) (ordS_srt ltE_ord _) (ordS_srt ltE_ord _)) ?_
        rintro _ w6 ⟨rfl, K⟩
        refine ⟨_, rfl, ?_⟩
        clear hT; intro a hT
        replace H := H.back [0] [] rfl rfl rfl K rfl; clear K
        rw [ord_two ltE_ord] at H
        replace hT := hT.keep [35, 7, 8, 30, 6, 13, 0, 1, 2] rfl
        refine Sx.ser_nil ?_
        refine Sx.then_normal (hK18 _ _ ?_)
        clear hK18
        refine wp_seq_k fun K19 hK19 => ?_
        refine Sx.wp_text [(0, .take), (1, .take)] rfl ?_
        refine Sx.st_take hT rfl rfl rfl rfl (Sx.x_move hT rfl rfl) ?_
        clear hT; intro a hT
        refine Sx.st_take hT rfl rfl rfl rfl (Sx.x_assign hT rfl rfl) ?_
        clear hT; intro a hT
        replace hT := hT.keep [7, 35, 8, 30, 6, 13, 0, 1, 2] rfl
        refine Sx.ser_nil ?_
        refine Sx.then_normal (hK19 _ _ ?_)
        clear hK19
        refine Sx.wp_text [(0, .take), (1, .take), (2, .take), (3, .take), (4, .take)] rfl ?_
        refine Sx.st_take hT rfl rfl rfl rfl (Sx.x_move hT rfl rfl) ?_
        clear hT; intro a hT
        refine Sx.st_take hT rfl rfl rfl rfl (Sx.x_move hT rfl rfl) ?_
        clear hT; intro a hT
        refine Sx.st_take hT rfl rfl rfl rfl ((fun w => Sx.x_mul w hT rfl rfl rfl (Sx.wrap64 (by omega)))) ?_
        clear hT; intro a hT
        rw [show ((2 : Int) * (s : Int)) = ((2 * s : Nat) : Int) from by omega] at hT
        refine Sx.st_take hT rfl rfl rfl rfl ((fun w => Sx.x_add w hT rfl rfl rfl (Sx.wrap64 (by omega)))) ?_
        clear hT; intro a hT
        rw [show (((a9 + 2 * s : Nat) : Int) + ((2 * s : Nat) : Int)) = ((a9 + 2 * s + 2 * s : Nat) : Int) from by omega] at hT
        refine Sx.st_take hT rfl rfl rfl rfl (Sx.x_assign hT rfl rfl) ?_
        clear hT; intro a hT
        replace hT := hT.keep [8, 7, 35, 30, 6, 13, 0, 1, 2] rfl
        refine Sx.ser_nil ?_
        refine Sx.block_normal ?_
        refine Sx.then_normal ?_
        exact ⟨(a9 + 2 * s, P ++ ordS ltE (R.take (2 * s)), R.drop (2 * s)), ⟨by show a9 + 2 * s = (P ++ _).length; rw [List.length_append, ordS_len, List.length_take]; omega, by show (P ++ _).length + (R.drop (2 * s)).length = n; rw [List.length_append, ordS_len, List.length_take, List.length_drop]; omega, by show P ++ _ ++ bk ltE (2 * s) (R.drop (2 * s)) = _; rw [List.append_assoc, ← bk_step (by omega) (by omega), hF]⟩, (hT.keep [7, 8, 30, 6, 13, 0, 1, 2] rfl), (H.keep [0] rfl rfl), by show n - (a9 + 2 * s) < n - a9; omega⟩
      · try simp only [Sx.bq] at hc17
        refine wp_exit ?_
        refine Sx.then_exit ?_
        refine Sx.then_exit ?_
        refine Sx.block_exit ?_
        refine Sx.then_normal (hK14 _ _ ?_)
        clear hK14
        refine wp_seq_k fun K20 hK20 => ?_
        refine wp_seq_k fun K21 hK21 => ?_
        refine Sx.wp_text [(0, .take), (1, .take), (2, .take), (3, .take)] rfl ?_
        refine Sx.st_take hT rfl rfl rfl rfl (Sx.x_move hT rfl rfl) ?_
        clear hT; intro a hT
        refine Sx.st_take hT rfl rfl rfl rfl (Sx.x_move hT rfl rfl) ?_
        clear hT; intro a hT
        refine Sx.st_take hT rfl rfl rfl rfl ((fun w => Sx.x_add w hT rfl rfl rfl (Sx.wrap64 (by omega)))) ?_
        clear hT; intro a hT
        rw [show ((a9 : Int) + (s : Int)) = ((a9 + s : Nat) : Int) from by omega] at hT
        refine Sx.st_take hT rfl rfl rfl rfl (Sx.x_assign hT rfl rfl) ?_
        clear hT; intro a hT
        replace hT := hT.keep [9, 35, 7, 8, 30, 6, 13, 0, 1, 2] rfl
        refine Sx.ser_nil ?_
        refine Sx.then_normal (hK21 _ _ ?_)
        clear hK21
        refine wp_seq_k fun K22 hK22 => ?_
        refine Sx.wp_text [(0, .take), (1, .take), (2, .take)] rfl ?_
        refine Sx.st_take hT rfl rfl rfl rfl (Sx.x_move hT rfl rfl) ?_
        clear hT; intro a hT
        refine Sx.st_take hT rfl rfl rfl rfl (Sx.x_move hT rfl rfl) ?_
        clear hT; intro a hT
        refine Sx.st_take hT rfl rfl rfl rfl ((fun w => Sx.x_lt w hT rfl rfl rfl)) ?_
        clear hT; intro a hT
        replace hT := hT.keep [54, 9, 35, 7, 8, 30, 6, 13, 0, 1, 2] rfl
        refine Sx.ser_nil ?_
        refine Sx.then_normal (hK22 _ _ ?_)
        clear hK22
        refine Sx.wp_if hT rfl (fun hc23 => ?_) (fun hc23 => ?_)
        · try simp only [Sx.bq] at hc23
          skip
          refine Sx.wp_text [(0, .take), (1, .take), (2, .take), (3, .take), (4, .take), (5, .run)] rfl ?_
          refine Sx.st_take hT rfl rfl rfl rfl (Sx.x_move hT rfl rfl) ?_
          clear hT; intro a hT
          refine Sx.st_take hT rfl rfl rfl rfl (Sx.x_move hT rfl rfl) ?_
          clear hT; intro a hT
          refine Sx.st_take hT rfl rfl rfl rfl (Sx.x_move hT rfl rfl) ?_
          clear hT; intro a hT
          refine Sx.st_take hT rfl rfl rfl rfl (Sx.x_move hT rfl rfl) ?_
          clear hT; intro a hT
          refine Sx.st_take hT rfl rfl rfl rfl (Sx.x_move hT rfl rfl) ?_
          clear hT; intro a hT
          rw [show P ++ bk ltE s R = P ++ ordS ltE (R.take s) ++ ordS ltE (R.drop s) ++ [] from by rw [bk_step hs1 (by omega), bk_end (L := R.drop s) (by rw [List.length_drop]; omega), List.append_nil, List.append_assoc]] at H
          refine Sx.st_call hT rfl rfl rfl rfl rfl Try.can97 rfl (sym_all hl _ _ P (ordS ltE (R.take s)) (ordS ltE (R.drop s)) [] a9 (a9 + s) n _ (Nat.lt_succ_self _) (H.pre [0] rfl rfl) (by simp only [List.length_append, ordS_len, List.length_take, List.length_drop, List.length_nil]; omega) ha (by rw [ordS_len, List.length_take]; omega) (by rw [ordS_len, List.length_drop]; omega) (by rw [ordS_len, List.length_take]; omega) (by rw [ordS_len, List.length_drop]; omega) (ordS_srt ltE_ord _) (ordS_srt ltE_ord _)) ?_
          rintro _ w7 ⟨rfl, K⟩
          refine ⟨_, rfl, ?_⟩
          clear hT; intro a hT
          replace H := H.back [0] [] rfl rfl rfl K rfl; clear K
          rw [← ordS_app ltE_ord, List.take_append_drop, List.append_nil] at H
          replace hT := hT.keep [54, 9, 35, 7, 8, 30, 6, 13, 0, 1, 2] rfl
          refine Sx.ser_nil ?_
          refine Sx.then_normal (hK20 _ _ ?_)
          clear hK20
          refine Sx.wp_text [(0, .take), (1, .take), (2, .take)] rfl ?_
          refine Sx.st_take hT rfl rfl rfl rfl (Sx.x_move hT rfl rfl) ?_
          clear hT; intro a hT
          refine Sx.st_take hT rfl rfl rfl rfl ((fun w => Sx.x_mul w hT rfl rfl rfl (Sx.wrap64 (by omega)))) ?_
          clear hT; intro a hT
          rw [show ((s : Int) * 2) = ((2 * s : Nat) : Int) from by omega] at hT
          refine Sx.st_take hT rfl rfl rfl rfl (Sx.x_assign hT rfl rfl) ?_
          clear hT; intro a hT
          replace hT := hT.keep [6, 54, 9, 35, 7, 8, 30, 13, 0, 1, 2] rfl
          refine Sx.ser_nil ?_
          refine Sx.block_normal ?_
          refine Sx.then_normal ?_
          rw [show P ++ ordS ltE R = bk ltE (2 * s) L from by rw [← hF, bk_end (show R.length ≤ 2 * s by omega)]] at H
          exact ⟨2 * s, ⟨by omega, by omega⟩, (hT.keep [6, 13, 0, 1, 2] rfl), (H.keep [0] rfl rfl), by show n - 2 * s < n - s; omega⟩
        · try simp only [Sx.bq] at hc23
          rw [bk_end (show R.length ≤ s by omega)] at H
          refine wp_skip ?_
          refine Sx.then_normal (hK20 _ _ ?_)
          clear hK20
          refine Sx.wp_text [(0, .take), (1, .take), (2, .take)] rfl ?_
          refine Sx.st_take hT rfl rfl rfl rfl (Sx.x_move hT rfl rfl) ?_
          clear hT; intro a hT
          refine Sx.st_take hT rfl rfl rfl rfl ((fun w => Sx.x_mul w hT rfl rfl rfl (Sx.wrap64 (by omega)))) ?_
          clear hT; intro a hT
          rw [show ((s : Int) * 2) = ((2 * s : Nat) : Int) from by omega] at hT
          refine Sx.st_take hT rfl rfl rfl rfl (Sx.x_assign hT rfl rfl) ?_
          clear hT; intro a hT
          replace hT := hT.keep [6, 54, 9, 35, 7, 8, 30, 13, 0, 1, 2] rfl
          refine Sx.ser_nil ?_
          refine Sx.block_normal ?_
          refine Sx.then_normal ?_
          rw [show P ++ ordS ltE R = bk ltE (2 * s) L from by rw [← hF, bk_end (show R.length ≤ 2 * s by omega)]] at H
          exact ⟨2 * s, ⟨by omega, by omega⟩, (hT.keep [6, 13, 0, 1, 2] rfl), (H.keep [0] rfl rfl), by show n - 2 * s < n - s; omega⟩
    · try simp only [Sx.bq] at hc12
      rw [bk_end (show L.length ≤ s by omega)] at H
      refine wp_exit ?_
      refine Sx.then_exit ?_
      refine Sx.then_exit ?_
      refine Sx.block_exit ?_
      refine Sx.done_end ?_
      refine Sx.done0 (fn := Try.f79) hT rfl  ?_
      exact ⟨rfl, H.keep [0] rfl rfl⟩

end Go.Proofs.Ytpggijfpkgglmaa
