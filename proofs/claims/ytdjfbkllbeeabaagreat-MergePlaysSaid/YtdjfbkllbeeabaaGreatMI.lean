/- Walks: the keys of maps, sorted. -/
import Derived.Test.YtdjfbkllbeeabaaGreatTy
import Derived.Test.YtdjfbkllbeeabaaGreatC0
import Derived.Test.YtdjfbkllbeeabaaGreatIter
set_option linter.unusedSimpArgs false
set_option linter.unusedVariables false
namespace Go.Proofs.YtdjfbkllbeeabaaGreat
open Sx

def icl (i : Int) : List Value := [.int .i64 i]
theorem icl_len (i : Int) : (icl i).length = 1 := rfl
theorem icl_flat : ∀ L : List Int, L.map encZ = L.flatMap icl
  | [] => rfl
  | x :: L => by rw [List.map_cons, icl_flat L]; rfl
def ilit (i : Int) : Lit := .int .i64 i
theorem iO : KO ilit (fun a b : Int => a < b) := intKO
theorem sorted_ints {α : Type} {κ : α → Int} {L : List α} (h : SrtK (fun a b : Int => a < b) κ L) {ss : List Int} (hp : ss.Perm (L.map κ)) : ss.mergeSort (fun x y => decide (x ≤ y)) = L.map κ := by
  rw [mergeSort_of_perm_i hp]
  refine List.mergeSort_of_pairwise ?_
  refine List.pairwise_map.2 (h.imp fun {a b} hab => ?_)
  have hab : κ a < κ b := hab
  simp only [decide_eq_true_eq]
  omega
theorem ints_tabK {α : Type} {κ : α → Int} {en : α → Value} (L : List α) : intKeys (tab (fun x => ilit (κ x)) en L) = L.map κ := by
  rw [ints_tab]
  rfl

theorem sorts_int (m : Nat) : AnyZI.SortsIn Tryz.prog Tryz.sorted68_ren Fence.wide m :=
  ⟨fun blk off cap ss W hH hblk hsz => callsIn_wide.2 (AnyM.slices_Sort_int Tryz.sort90 blk off cap ss W hH hblk hsz),
   fun p cap W => callsIn_wide.2 (AnyM.slices_Sort_int_none Tryz.sort90 p cap W)⟩

theorem Keys69_calls (b : Nat) (w : World) : Calls Tryz.prog 69 #[.map (some b)] w fun e w' => e = .returned (.func (.func 91) #[] #[.pointer (some ⟨w.heap.size, 0, none⟩)]) ∧ Ext No w w' ∧ w' = w.alloc (.cells #[.map (some b)] 68) := by
  have h : CallsIn Fence.wide 5 Tryz.prog 69 #[.map (some b)] w fun e w' => e = .returned (.func (.func 91) #[] #[.pointer (some ⟨w.heap.size, 0, none⟩)]) ∧ w' = w.alloc (.cells #[.map (some b)] 68) := AnyZI.keys_in Tryz.keys69 Fence.wide 5 trivial rfl (some b) w
  exact (callsIn_wide.1 h).mono fun e w' h => ⟨h.1, by rw [h.2]; exact Ext.alloc w _, h.2⟩
theorem Sorted69_calls {α : Type} {κ : α → Int} {en : α → Value} {b : Nat} {L : List α} {w w1 : World} (hm : Mp Tryz.prog 3 w b (tab (fun x => ilit (κ x)) en L)) (ew : w1 = w.alloc (.cells #[.map (some b)] 68)) (hs : SrtK (fun a b : Int => a < b) κ L) (hL : L.length ≤ 1000000) :
    Calls Tryz.prog 68 #[.func (.func 91) #[] #[.pointer (some ⟨w.heap.size, 0, none⟩)]] w1 fun e w' => ∃ ad c, e = .returned (.slice ad L.length c) ∧ Hp w1 No w' [cR 3 1 ad L.length c ((L.map κ).flatMap icl)] := by
  subst ew
  have hbl := hm.lt
  have hz : Maps.size (tab (fun x => ilit (κ x)) en L) = L.length := size_tab L
  have hseq : SeqGives Fence.wide 2 Tryz.prog 91 #[.pointer (some ⟨w.heap.size, 0, none⟩)] encZ (fun ss => ss.Perm (intKeys (tab (fun x => ilit (κ x)) en L))) (Maps.size (tab (fun x => ilit (κ x)) en L)) (w.alloc (.cells #[.map (some b)] 68)) :=
    AnyZI.keys_gives (ρ := Tryz.keys69_ren) { Tryz.keys69 with } Fence.wide _ trivial rfl (by omega) w.heap.size b _ (tab (fun x => ilit (κ x)) en L) _ (by simp) (by simp) (by
      obtain ⟨es, clock, hb, Ft, hs, hD⟩ := hm
      exact ⟨es, clock, (Go.RowKit.Below.heap_alloc _ _ b hbl).trans hb, Ft, hs, hD⟩)
  have cS := AnyZI.sorted_in Tryz.sorted68 Fence.wide 5 trivial trivial trivial trivial rfl (by omega) (sorts_int _) (enters_of Tryz.func90 (by kernel_rfl) rfl) 91 #[.pointer (some ⟨w.heap.size, 0, none⟩)] trivial (enters_of Tryz.func91 (by kernel_rfl) rfl) _ _ (by rw [hz]; unfold maxLen; omega) (by rw [hz]; omega) _ hseq
  change CallsIn _ _ Tryz.prog 68 _ _ _ at cS
  refine (calls_drawn (callsIn_wide.1 cS)).mono fun e w' h => ?_
  obtain ⟨⟨v, ss, rfl, hp, hrow, -, hb⟩, hd⟩ := h
  rw [ints_tabK] at hp
  rw [sorted_ints hs hp, show ss.length = L.length from by rw [hp.length_eq, List.length_map], icl_flat] at hrow
  obtain ⟨ad, c, rfl, H⟩ := Hp.ownedD hb (hd ⟨_, rfl⟩) hrow
  exact ⟨ad, c, rfl, H⟩

end Go.Proofs.YtdjfbkllbeeabaaGreat
