/- Walks: the keys of maps, sorted. -/
import Derived.Test.YtpnfpndhdnmhkaaGreatTy
import Derived.Test.YtpnfpndhdnmhkaaGreatC0
import Derived.Test.YtpnfpndhdnmhkaaGreatIter
set_option linter.unusedSimpArgs false
set_option linter.unusedVariables false
namespace Go.Proofs.YtpnfpndhdnmhkaaGreat
open Sx

theorem kc_flat : ∀ L : List Key, L.map encStr = L.flatMap kc
  | [] => rfl
  | x :: L => by rw [List.map_cons, kc_flat L]; rfl
theorem sorted_keys {α : Type} {κ : α → Key} {L : List α} (h : SrtK slt κ L) {ss : List Key} (hp : ss.Perm (L.map κ)) : ss.mergeSort (fun x y => decide (x ≤ y)) = L.map κ := by
  have e := mergeSort_of_perm hp
  refine Eq.trans e (List.mergeSort_of_pairwise ?_)
  refine List.pairwise_map.2 (h.imp fun {a b} hab => ?_)
  have hab : Op.bytesLess (κ a) (κ b) = true := hab
  rw [bytesLess_eq] at hab
  exact decide_eq_true (List.le_of_lt (of_decide_eq_true hab))
theorem strs_tab {α : Type} {κ : α → Key} {en : α → Value} (L : List α) : strKeys (tab (fun x => slit (κ x)) en L) = L.map κ := by
  unfold tab strKeys
  dsimp only
  rw [List.map_map]
  rfl

theorem sorts_string (m : Nat) : AnyZ.SortsIn Tryz.prog Tryz.sorted40_ren Fence.wide m :=
  ⟨fun blk off cap ss W hH hblk hsz => callsIn_wide.2 (AnyM.slices_Sort_string Tryz.sort91 blk off cap ss W hH hblk hsz),
   fun p cap W => callsIn_wide.2 (AnyM.slices_Sort_string_none Tryz.sort91 p cap W)⟩

theorem Keys41_calls (b : Nat) (w : World) : Calls Tryz.prog 41 #[.map (some b)] w fun e w' => e = .returned (.func (.func 92) #[] #[.pointer (some ⟨w.heap.size, 0, none⟩)]) ∧ Ext No w w' ∧ w' = w.alloc (.cells #[.map (some b)] 86) := by
  have h : CallsIn Fence.wide 5 Tryz.prog 41 #[.map (some b)] w fun e w' => e = .returned (.func (.func 92) #[] #[.pointer (some ⟨w.heap.size, 0, none⟩)]) ∧ w' = w.alloc (.cells #[.map (some b)] 86) := AnyZ.keys_in Tryz.keys41 Fence.wide 5 trivial rfl (some b) w
  exact (callsIn_wide.1 h).mono fun e w' h => ⟨h.1, by rw [h.2]; exact Ext.alloc w _, h.2⟩
theorem Sorted41_calls {α : Type} {κ : α → Key} {en : α → Value} {b : Nat} {L : List α} {w w1 : World} (hm : Mp Tryz.prog 9 w b (tab (fun x => slit (κ x)) en L)) (ew : w1 = w.alloc (.cells #[.map (some b)] 86)) (hs : SrtK slt κ L) (hL : L.length ≤ 1000000) :
    Calls Tryz.prog 40 #[.func (.func 92) #[] #[.pointer (some ⟨w.heap.size, 0, none⟩)]] w1 fun e w' => ∃ ad c, e = .returned (.slice ad L.length c) ∧ Hp w1 No w' [cR 9 1 ad L.length c ((L.map κ).flatMap kc)] := by
  subst ew
  have hbl := hm.lt
  have hz : Maps.size (tab (fun x => slit (κ x)) en L) = L.length := size_tab L
  have hseq : SeqGives Fence.wide 2 Tryz.prog 92 #[.pointer (some ⟨w.heap.size, 0, none⟩)] encStr (fun ss => ss.Perm (strKeys (tab (fun x => slit (κ x)) en L))) (Maps.size (tab (fun x => slit (κ x)) en L)) (w.alloc (.cells #[.map (some b)] 86)) :=
    AnyZ.keys_gives (ρ := Tryz.keys41_ren) { Tryz.keys41 with } Fence.wide _ trivial rfl (by omega) w.heap.size b _ (tab (fun x => slit (κ x)) en L) _ (by simp) (by simp) (by
      obtain ⟨es, clock, hb, Ft, hs, hD⟩ := hm
      exact ⟨es, clock, (Go.RowKit.Below.heap_alloc _ _ b hbl).trans hb, Ft, hs, hD⟩)
  have cS := AnyZ.sorted_in Tryz.sorted40 Fence.wide 5 trivial trivial trivial trivial rfl (by omega) (sorts_string _) (enters_of Tryz.func91 (by kernel_rfl) rfl) 92 #[.pointer (some ⟨w.heap.size, 0, none⟩)] trivial (enters_of Tryz.func92 (by kernel_rfl) rfl) _ _ (by rw [hz]; unfold maxLen; omega) (by rw [hz]; omega) _ hseq
  change CallsIn _ _ Tryz.prog 40 _ _ _ at cS
  refine (calls_drawn (callsIn_wide.1 cS)).mono fun e w' h => ?_
  obtain ⟨⟨v, ss, rfl, hp, hrow, -, hb⟩, hd⟩ := h
  rw [strs_tab] at hp
  rw [sorted_keys hs hp, show ss.length = L.length from by rw [hp.length_eq, List.length_map], kc_flat] at hrow
  obtain ⟨ad, c, rfl, H⟩ := Hp.ownedD hb (hd ⟨_, rfl⟩) hrow
  exact ⟨ad, c, rfl, H⟩

end Go.Proofs.YtpnfpndhdnmhkaaGreat
