/- Rows that a sort of the library's has turned: elements of one cell. -/
import Derived.Test.YtmhfmbgjnebcfaaSxQ
import Derived.Shelf.SlSortCmp.NoneTotal
set_option linter.unusedSimpArgs false
set_option linter.unusedVariables false
namespace Go.Sx
open Go.Sort Go.Proofs
section
variable {α : Type} [Inhabited α] {enc : α → Value} {w w' : World} {e : TypeId} {b c n m : Nat} {l : List α} {os : Array Obj} {d : Array α}
theorem putCells_list (xs junk : List Value) (hd : d.size = xs.length) : putCells enc 0 d (xs ++ junk).toArray = (d.toList.map enc ++ junk).toArray := by
  apply Array.ext_getElem?
  intro k
  unfold putCells
  rw [Array.getElem?_mapIdx]
  simp only [List.getElem?_toArray, Nat.zero_le, true_and, Nat.zero_add, Nat.sub_zero]
  by_cases hk : k < d.size
  · rw [List.getElem?_append_left (by omega), List.getElem?_append_left (by simpa using hk), List.getElem?_eq_getElem (by omega), Option.map_some, if_pos hk, List.getElem?_map, Array.getElem?_toList, getElem!_pos d k hk, Array.getElem?_eq_getElem hk]
    rfl
  · have e1 : (d.toList.map enc).length = xs.length := by simpa using hd
    rw [List.getElem?_append_right (by omega), List.getElem?_append_right (by omega), e1]
    cases junk[k - xs.length]? with
    | none => rfl
    | some v => rw [Option.map_some, if_neg hk]
theorem sortRow (hr : Row w e 1 (some ⟨b, 0, none⟩) n c (l.map enc)) (hn : n = l.length) (h0 : 0 < n) (hd : d.size = n) :
    Row (sortWorld enc w b 0 m d os) e 1 (some ⟨b, 0, none⟩) n c (d.toList.map enc) ∧ Ext (One b) w (sortWorld enc w b 0 m d os) := by
  rcases hr.own with ⟨h1, -, -⟩ | ⟨junk, -, hB, hc, h1, h2⟩
  · cases h1
  · have hab : ab (some ⟨b, 0, none⟩) = b := rfl
    rw [hab] at hB
    have hlt := hB.lt
    have hsz : (l.map enc).length = n := by rw [List.length_map, hn]
    have hheap : (sortWorld enc w b 0 m d os).heap = w.heap.modify b (onCells (putCells enc 0 d)) ++ os := rfl
    have hB2 : Blk (sortWorld enc w b 0 m d os) b (d.toList.map enc ++ junk) e := by
      unfold Blk at hB ⊢
      rw [hheap, Array.getElem?_append_left (by simpa using hlt), Array.getElem?_modify, if_pos rfl, hB]
      have h9 := putCells_list (enc := enc) (d := d) (l.map enc) junk (by omega)
      show some (Obj.cells (putCells enc 0 d (l.map enc ++ junk).toArray) e (0, 0)) = _
      rw [h9]
    refine ⟨⟨by simpa using hd, .inr ⟨junk, rfl, hB2, ?_, h1, h2⟩⟩, ⟨rfl, rfl, rfl, ?_, fun k hk hne => ?_, ?_⟩⟩
    · rw [List.length_append] at hc ⊢
      rw [List.length_map, Array.length_toList, hd]
      omega
    · rw [hheap]; simp
    · rw [hheap, Array.getElem?_append_left (by simpa using hk), Array.getElem?_modify, if_neg (fun h => hne h.symm)]
    · exact Nat.le_add_right _ _
theorem row_holds (hr : Row w e 1 (some ⟨b, 0, none⟩) n c (l.map enc)) (hn : n = l.length) : Holds enc w b 0 l.toArray := by
  intro j hj
  have hj' : j < l.length := by simpa using hj
  rcases hr.own with ⟨h1, -, -⟩ | ⟨junk, -, hB, -, -, -⟩
  · cases h1
  · have hab : ab (some ⟨b, 0, none⟩) = b := rfl
    rw [hab] at hB
    rw [Nat.zero_add]
    refine ⟨hB.cell ?_, hB.frozen j⟩
    rw [List.getElem?_append_left (by simpa using hj'), List.getElem?_map, List.getElem?_eq_getElem hj', getElem!_pos l.toArray j hj]
    simp
/-- what is asked of a comparison -/
theorem cmp_lays {P : Program} {g : Nat} {cf : α → α → Int} {off sz : Nat} (h : ∀ (x y : α) (w : World), Calls P g #[enc x, enc y] w fun e w' => e = .returned (.int .i64 (cf x y)) ∧ Ext No w w') : CmpLays1 P g #[] enc cf b off sz w := by
  intro m os dk _ x y
  refine (h x y _).mono fun e w' ⟨he, hx⟩ => ⟨he, ?_⟩
  obtain ⟨n, os', rfl⟩ := hx.exact
  exact ⟨n, os', rfl⟩
end
end Go.Sx
