/- Rows of structs that a sort of the library's has turned (the strict kind alone). -/
import Derived.Test.YtpnfpndhdnmhkaaGreatSx1
import Derived.Shelf.SlSortCmp.WholeK
set_option linter.unusedSimpArgs false
set_option linter.unusedVariables false
namespace Go.Sx
open Go.Sort Go.Proofs
section
variable {w : World} {e : TypeId} {b : Nat} {xs junk : List Value} {os : Array Obj} {d : Array Value} {m : Nat}
theorem putCells_id (hd : d.size = xs.length) : putCells id 0 d (xs ++ junk).toArray = (d.toList ++ junk).toArray := by
  apply Array.ext_getElem?
  intro k
  unfold putCells
  rw [Array.getElem?_mapIdx]
  simp only [List.getElem?_toArray, Nat.zero_le, true_and, Nat.zero_add, Nat.sub_zero]
  by_cases hk : k < d.size
  · rw [List.getElem?_append_left (by omega), List.getElem?_append_left (by simpa using hk), List.getElem?_eq_getElem (by omega), Option.map_some, if_pos hk, Array.getElem?_toList, getElem!_pos d k hk, Array.getElem?_eq_getElem hk]
    rfl
  · have e1 : d.toList.length = xs.length := by simpa using hd
    rw [List.getElem?_append_right (by omega), List.getElem?_append_right (by omega), e1]
    cases junk[k - xs.length]? with
    | none => rfl
    | some v => rw [Option.map_some, if_neg hk]
theorem sortBlk (hB : Blk w b (xs ++ junk) e) (hd : d.size = xs.length) : Blk (sortWorld id w b 0 m d os) b (d.toList ++ junk) e ∧ Ext (One b) w (sortWorld id w b 0 m d os) := by
  have hlt := hB.lt
  have hheap : (sortWorld id w b 0 m d os).heap = w.heap.modify b (onCells (putCells id 0 d)) ++ os := rfl
  refine ⟨?_, ⟨rfl, rfl, rfl, ?_, fun k hk hne => ?_, ?_⟩⟩
  · unfold Blk at hB ⊢
    rw [hheap, Array.getElem?_append_left (by simpa using hlt), Array.getElem?_modify, if_pos rfl, hB]
    have h9 := putCells_id (d := d) (xs := xs) (junk := junk) (by omega)
    show some (Obj.cells (putCells id 0 d (xs ++ junk).toArray) e (0, 0)) = _
    rw [h9]
  · rw [hheap]; simp
  · rw [hheap, Array.getElem?_append_left (by simpa using hk), Array.getElem?_modify, if_neg (fun h => hne h.symm)]
  · exact dr_of (Nat.le_add_right _ _)
end
section
variable {α : Type} [Inhabited α] {enc : α → List Value} {k : Nat} {w : World} {e : TypeId} {b c n m : Nat} {l : List α} {os : Array Obj} {d : Array α}
theorem flatK_list (hk : ∀ x, (enc x).length = k) (h0 : 0 < k) (d : Array α) : (flatK enc k d).toList = d.toList.flatMap enc := by
  apply List.ext_getElem?
  intro t
  by_cases ht : t < d.size * k
  · have h1 : t / k < d.size := Nat.div_lt_of_lt_mul (by rw [Nat.mul_comm]; exact ht)
    have hm := Nat.mod_lt t h0
    have hjj : t / k * k + t % k = t := by rw [Nat.mul_comm]; exact Nat.div_add_mod t k
    have e0 : d.toList[t / k]? = some d[t / k] := by rw [Array.getElem?_toList, Array.getElem?_eq_getElem h1]
    have e1 := flat_get hk e0 hm
    rw [hjj] at e1
    rw [e1, Array.getElem?_toList, Array.getElem?_eq_getElem (by simpa using ht)]
    have e2 := get_flatK enc k d t ht
    rw [getElem!_pos (flatK enc k d) t (by simpa using ht)] at e2
    rw [e2, getElem!_pos d (t / k) h1]
    have h3 : t % k < (enc d[t / k]).length := by rw [hk]; exact hm
    rw [List.getElem?_eq_getElem h3, getElem!_pos (enc d[t / k]) (t % k) h3]
  · rw [List.getElem?_eq_none, List.getElem?_eq_none]
    · rw [flat_len hk]; simpa using ht
    · rw [Array.length_toList, size_flatK]; omega
theorem sortRowK (hk : ∀ x, (enc x).length = k) (h0 : 0 < k) (hr : Row w e k (some ⟨b, 0, none⟩) n c (l.flatMap enc)) (hn : n = l.length) (hd : d.size = n) :
    Row (sortWorldK enc k w b 0 m d os) e k (some ⟨b, 0, none⟩) n c (d.toList.flatMap enc) ∧ Ext (One b) w (sortWorldK enc k w b 0 m d os) := by
  rcases hr.own with ⟨h1, -, -⟩ | ⟨junk, -, hB, hc, h1, h2⟩
  · cases h1
  · have hab : ab (some ⟨b, 0, none⟩) = b := rfl
    rw [hab] at hB
    have hl := hr.len
    have hsz : (flatK enc k d).size = (l.flatMap enc).length := by rw [size_flatK, hd, hl]
    obtain ⟨hB2, hE⟩ := sortBlk (m := m) (os := os) hB hsz
    rw [flatK_list hk h0] at hB2
    have hlen : (d.toList.flatMap enc).length = n * k := by rw [flat_len hk, Array.length_toList, hd]
    refine ⟨⟨hlen, .inr ⟨junk, rfl, hB2, ?_, h1, h2⟩⟩, hE⟩
    rw [List.length_append] at hc ⊢
    omega
theorem row_holdsK (hk : ∀ x, (enc x).length = k) (h0 : 0 < k) (hr : Row w e k (some ⟨b, 0, none⟩) n c (l.flatMap enc)) (hn : n = l.length) : HoldsK enc k w b 0 l.toArray := by
  intro j hj
  rcases hr.own with ⟨h1, -, -⟩ | ⟨junk, -, hB, -, -, -⟩
  · cases h1
  · have hab : ab (some ⟨b, 0, none⟩) = b := rfl
    rw [hab] at hB
    rw [Nat.zero_add]
    refine ⟨hB.cell ?_, hB.frozen j⟩
    have e1 : (flatK enc k l.toArray).toList = l.flatMap enc := flatK_list hk h0 _
    have hj2 : j < (l.flatMap enc).length := by rw [← e1]; simpa using hj
    rw [List.getElem?_append_left hj2, getElem!_pos (flatK enc k l.toArray) j hj]
    show _ = some (id (flatK enc k l.toArray)[j])
    rw [← e1, Array.getElem?_toList, Array.getElem?_eq_getElem hj]
    rfl
theorem cmp_laysK {P : Program} {g : Nat} {cf : α → α → Int} {off sz : Nat} (h : ∀ (x y : α) (w : World), Calls P g #[.agg (enc x).toArray, .agg (enc y).toArray] w fun e w' => e = .returned (.int .i64 (cf x y)) ∧ Ext No w w') : CmpLays P g #[] enc k cf b off sz w := by
  intro m os dk _ x y
  refine (h x y _).mono fun e w' ⟨he, hx⟩ => ⟨he, ?_⟩
  obtain ⟨n, os', rfl⟩ := hx.exact
  exact ⟨n, os', rfl⟩
theorem perm_list {d' : Array α} (h : PermIn 0 l.toArray.size l.toArray d') : d'.size = l.length ∧ d'.toList.Perm l := by
  obtain ⟨h1, -, h2⟩ := h
  have h1' : d'.size = l.length := by simpa using h1
  refine ⟨h1', ?_⟩
  have e1 : d'.extract 0 l.toArray.size = d' := by
    apply Array.toList_inj.1
    simp [h1']
    rw [List.take_of_length_le (by simp [h1'])]
  have e2 : l.toArray.extract 0 l.toArray.size = l.toArray := by
    apply Array.toList_inj.1
    simp
  rw [e1, e2] at h2
  exact h2
theorem sorted_list {lt : α → α → Bool} {d' : Array α} {n : Nat} (h : SortedIn lt 0 n d') (hn : d'.size = n) : d'.toList.Pairwise fun x y => lt y x = false := by
  rw [List.pairwise_iff_getElem]
  intro i j hi hj hij
  have hi' : i < d'.size := by simpa using hi
  have hj' : j < d'.size := by simpa using hj
  have := h i j (Nat.zero_le _) hij (by omega)
  rw [getElem!_pos d' j hj', getElem!_pos d' i hi'] at this
  simpa using this
end
end Go.Sx
