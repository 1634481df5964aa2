/- Order of floats, plainly. -/
import Derived.Test.YtmhfmbgjnebcfaaN1
import Derived.Shelf.SlSortCmp.NoneTotal
set_option linter.unusedSimpArgs false
set_option linter.unusedVariables false
namespace Go.Proofs.Ytmhfmbgjnebcfaa
open Sx

theorem and_top {n : Nat} (h : n < 2 ^ 64) : n &&& 2 ^ 63 = if n < 2 ^ 63 then 0 else 2 ^ 63 := by
  apply Nat.eq_of_testBit_eq
  intro i
  rw [Nat.testBit_and, Nat.testBit_two_pow]
  by_cases hi : 63 = i
  · subst hi
    by_cases h1 : n < 2 ^ 63
    · rw [if_pos h1, Nat.testBit_lt_two_pow h1]; simp
    · have e : n / 2 ^ 63 = 1 := by omega
      rw [if_neg h1, Nat.testBit_eq_decide_div_mod_eq, e, Nat.testBit_two_pow]; simp
  · rw [decide_eq_false hi, Bool.and_false]
    split
    · simp
    · rw [Nat.testBit_two_pow, decide_eq_false hi]
theorem or_top {n : Nat} (h : n < 2 ^ 63) : n ||| 2 ^ 63 = n + 2 ^ 63 := by
  have := Nat.two_pow_add_eq_or_of_lt h 1
  rw [Nat.mul_one] at this
  rw [Nat.or_comm, ← this, Nat.add_comm]
theorem uand_top {n : Nat} (h : n < 2 ^ 64) : uand (n : Int) sgn = if n < 2 ^ 63 then 0 else sgn := by
  unfold uand sgn
  rw [show (9223372036854775808 : Int) = ((2 ^ 63 : Nat) : Int) from rfl, BitVec.ofInt_natCast, BitVec.ofInt_natCast, BitVec.toNat_and, BitVec.toNat_ofNat, BitVec.toNat_ofNat, Nat.mod_eq_of_lt h, Nat.mod_eq_of_lt (by omega : 2 ^ 63 < 2 ^ 64), and_top h]
  split
  · rfl
  · rfl
theorem uor_top {n : Nat} (h : n < 2 ^ 63) : uor (n : Int) sgn = ((n + 2 ^ 63 : Nat) : Int) := by
  unfold uor sgn
  rw [show (9223372036854775808 : Int) = ((2 ^ 63 : Nat) : Int) from rfl, BitVec.ofInt_natCast, BitVec.ofInt_natCast, BitVec.toNat_or, BitVec.toNat_ofNat, BitVec.toNat_ofNat, Nat.mod_eq_of_lt (by omega : n < 2 ^ 64), Nat.mod_eq_of_lt (by omega : 2 ^ 63 < 2 ^ 64), or_top h]
  exact wrap_u64 (by omega) (by omega)
theorem uxor_all {n : Nat} (h : n < 2 ^ 64) : uxor 18446744073709551615 (n : Int) = ((2 ^ 64 - 1 - n : Nat) : Int) := by
  unfold uxor
  have e : (BitVec.ofInt 64 18446744073709551615) = BitVec.allOnes 64 := by decide
  rw [e, BitVec.ofInt_natCast, BitVec.allOnes_xor, BitVec.toNat_not, BitVec.toNat_ofNat, Nat.mod_eq_of_lt h]
  exact wrap_u64 (by omega) (by omega)
theorem fcan_lt {b : Nat} (h : b < 2 ^ 64) : fcan b < 2 ^ 64 := by
  unfold fcan fnan
  split <;> omega
theorem rank_val {b : Nat} (h : b < 2 ^ 64) : rank b = if fcan b < 2 ^ 63 then ((fcan b + 2 ^ 63 : Nat) : Int) else ((2 ^ 64 - 1 - fcan b : Nat) : Int) := by
  have hc := fcan_lt h
  unfold rank
  rw [uand_top hc]
  by_cases h1 : fcan b < 2 ^ 63
  · rw [if_pos h1, if_pos rfl, if_pos h1, uor_top h1]
  · rw [if_neg h1, if_neg h1, if_neg (by unfold sgn; omega), uxor_all hc]
theorem rank_inj {b c : Nat} (h : b < 2 ^ 64) (h1 : c < 2 ^ 64) (e : rank b = rank c) : fcan b = fcan c := by
  have hb := fcan_lt h
  have hc := fcan_lt h1
  rw [rank_val h, rank_val h1] at e
  split at e <;> split at e <;> omega
theorem rank_can (b : Nat) : rank (fcan b) = rank b := by unfold rank; rw [fcan_fcan]
theorem order_lt (a b : Int) : order a b < 0 ↔ a < b := by unfold order; split <;> (try split) <;> omega
theorem order_gt (a b : Int) : 0 < order a b ↔ b < a := by unfold order; split <;> (try split) <;> omega
/-- canonical floats -/
structure CF where
  v : Nat
  can : fcan v = v
  lt : v < 2 ^ 64
instance : Inhabited CF := ⟨⟨0, by decide +kernel, by decide⟩⟩
def fval (x : CF) : Value := .float .f64 x.v
def ccf (x y : CF) : Int := order (rank x.v) (rank y.v)
theorem CF.lists : ∀ {l : List Nat}, (∀ b ∈ l, b < 2 ^ 64) → ∃ ls : List CF, ls.map CF.v = l.map fcan
  | [], _ => ⟨[], rfl⟩
  | b :: l, h => by
    obtain ⟨ls, e⟩ := CF.lists (l := l) fun x hx => h x (List.mem_cons_of_mem _ hx)
    exact ⟨⟨fcan b, fcan_fcan b, fcan_lt (h b (List.mem_cons_self ..))⟩ :: ls, by rw [List.map_cons, e]; rfl⟩
/-- in order -/
def Rising (l : List Nat) : Prop := l.Pairwise fun a b => rank a ≤ rank b
def SortOf (l s : List Nat) : Prop := s.Perm (l.map fcan) ∧ Rising s
theorem sort_one {l s t : List Nat} (hb : ∀ b ∈ l, b < 2 ^ 64) (hs : SortOf l s) (ht : SortOf l t) : s = t := by
  have hmem : ∀ u : List Nat, u.Perm (l.map fcan) → ∀ x ∈ u, x < 2 ^ 64 ∧ fcan x = x := fun u hu x hx => by
    have := hu.mem_iff.1 hx
    obtain ⟨b, h1, rfl⟩ := List.mem_map.1 this
    exact ⟨fcan_lt (hb b h1), fcan_fcan b⟩
  refine List.Perm.eq_of_pairwise (le := fun a b => rank a ≤ rank b) ?_ hs.2 ht.2 (hs.1.trans ht.1.symm)
  intro a b ha hb' h1 h2
  have h3 := hmem s hs.1 a ha
  have h4 := hmem t ht.1 b hb'
  have := rank_inj h3.1 h4.1 (by omega)
  rw [h3.2, h4.2] at this
  exact this
theorem sort_len {l s : List Nat} (h : SortOf l s) : s.length = l.length := by rw [h.1.length_eq, List.length_map]
theorem swo_ccf : Go.Sort.SWO (Go.Proofs.ltOf ccf) := by
  refine ⟨fun x => ?_, fun x y z h1 h2 => ?_, fun x y z h1 h2 => ?_⟩
  · simp only [Go.Proofs.ltOf, ccf, order_lt, decide_eq_false_iff_not]; omega
  · simp only [Go.Proofs.ltOf, ccf, order_lt, decide_eq_true_eq] at *; omega
  · simp only [Go.Proofs.ltOf, ccf, order_lt, decide_eq_false_iff_not] at *; omega
theorem ccf_total (x y : CF) (h1 : Go.Proofs.ltOf ccf x y = false) (h2 : Go.Proofs.ltOf ccf y x = false) : x = y := by
  simp only [Go.Proofs.ltOf, ccf, order_lt, decide_eq_false_iff_not] at h1 h2
  have := rank_inj x.lt y.lt (by omega)
  rw [x.can, y.can] at this
  cases x; cases y; cases this; rfl
theorem merge_sort {l : List Nat} {ls : List CF} (e : ls.map CF.v = l.map fcan) : SortOf l ((ls.mergeSort fun x y => !(Go.Proofs.ltOf ccf) y x).map CF.v) := by
  refine ⟨?_, ?_⟩
  · rw [← e]
    exact (List.mergeSort_perm _ _).map _
  · have := List.pairwise_mergeSort (le := fun x y : CF => !(Go.Proofs.ltOf ccf) y x) (fun a b c h1 h2 => by
      simp only [Go.Proofs.ltOf, ccf, order_lt, Bool.not_eq_true', decide_eq_false_iff_not] at *; omega) (fun a b => by
      simp only [Go.Proofs.ltOf, ccf, order_lt, Bool.or_eq_true, Bool.not_eq_true', decide_eq_false_iff_not]; omega) ls
    unfold Rising
    rw [List.pairwise_map]
    refine this.imp fun h => ?_
    simp only [Go.Proofs.ltOf, ccf, order_lt, Bool.not_eq_true', decide_eq_false_iff_not] at h
    omega
/-- x put in its place -/
theorem ins_sort {l S : List Nat} {k j : Nat} {x : Nat} (hk : l[k]? = some x) (h : SortOf (l.take k) S) (h1 : ∀ t y, t < j → S[t]? = some y → rank y ≤ rank x) (h2 : ∀ t y, j ≤ t → S[t]? = some y → rank x ≤ rank y) : SortOf (l.take (k + 1)) (S.take j ++ fcan x :: S.drop j) := by
  obtain ⟨hk1, rfl⟩ := List.getElem?_eq_some_iff.1 hk
  refine ⟨?_, ?_⟩
  · rw [List.take_succ_eq_append_getElem hk1, List.map_append]
    have e : (S.take j ++ fcan l[k] :: S.drop j).Perm (fcan l[k] :: (S.take j ++ S.drop j)) := List.perm_middle
    rw [List.take_append_drop] at e
    exact e.trans ((List.perm_append_comm (l₁ := [fcan l[k]]) (l₂ := S)).trans (h.1.append_right _))
  · unfold Rising
    have hp := h.2
    unfold Rising at hp
    rw [← List.take_append_drop j S] at hp
    rw [List.pairwise_append] at hp ⊢
    refine ⟨hp.1, ?_, ?_⟩
    · rw [List.pairwise_cons]
      refine ⟨fun y hy => ?_, hp.2.1⟩
      obtain ⟨t, ht⟩ := List.mem_iff_getElem?.1 hy
      rw [List.getElem?_drop] at ht
      rw [rank_can]
      exact h2 (j + t) y (by omega) ht
    · intro a ha b hb
      rcases List.mem_cons.1 hb with rfl | hb
      · obtain ⟨t, ht⟩ := List.mem_iff_getElem?.1 ha
        rw [List.getElem?_take] at ht
        split at ht
        · rename_i h9
          rw [rank_can]
          exact h1 t a h9 ht
        · cases ht
      · exact hp.2.2 a ha b hb

end Go.Proofs.Ytmhfmbgjnebcfaa
