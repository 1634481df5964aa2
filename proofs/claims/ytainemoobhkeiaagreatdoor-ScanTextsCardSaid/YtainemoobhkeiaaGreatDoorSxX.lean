/- Families: as many slices of one's own as a list has elements, as one chunk. -/
import Derived.Test.YtainemoobhkeiaaGreatDoorSxW
set_option linter.unusedSimpArgs false
set_option linter.unusedVariables false
namespace Go.Sx
structure Rw where
  ad : Option Addr
  n : Nat
  c : Nat
  xs : List Value
def fOwn {α : Type} (f : α → Rw) (L : List α) : Nat → Prop := fun k => ∃ x ∈ L, Own (f x).ad k
def Apart {α : Type} (f : α → Rw) (x y : α) : Prop := ∀ k, Own (f x).ad k → ¬ Own (f y).ad k
structure Fam {α : Type} (e : TypeId) (sz : Nat) (f : α → Rw) (w : World) (L : List α) : Prop where
  row : ∀ x ∈ L, Row w e sz (f x).ad (f x).n (f x).c (f x).xs
  dis : L.Pairwise (Apart f)
section
variable {α : Type} {e : TypeId} {sz : Nat} {f : α → Rw} {w w' w0 : World} {L L' : List α} {x y : α} {S T : Nat → Prop} {l l' rest : List Chunk} {i j k : Nat}
theorem Apart.symm (h : Apart f x y) : Apart f y x := fun k h1 h2 => h k h2 h1
theorem Fam.nil : Fam e sz f w [] := ⟨fun x h => by simp at h, List.Pairwise.nil⟩
theorem Fam.ext (h : Fam e sz f w L) (X : Ext S w w') (hd : ∀ k, fOwn f L k → ¬ S k) : Fam e sz f w' L :=
  ⟨fun x hx => (h.row x hx).ext X fun k hk hs => hd k ⟨x, hx, hk⟩ hs, h.dis⟩
theorem Fam.ck (h : Fam e sz f w L) : Ck (fOwn f L) (fun w => Fam e sz f w L) w := fun w' X => h.ext X fun k hk hn => hn hk
theorem Fam.lt (h : Fam e sz f w L) {k : Nat} (hk : fOwn f L k) : k < w.heap.size := by
  obtain ⟨x, hx, hk⟩ := hk
  exact (h.row x hx).lt k hk
theorem Fam.get (h : Fam e sz f w L) {i : Nat} (hx : L[i]? = some x) : Row w e sz (f x).ad (f x).n (f x).c (f x).xs := h.row x (List.mem_of_getElem? hx)
theorem Fam.map {β : Type} {g : β → Rw} {M : List β} (h : Fam e sz f w L) (e1 : M.map g = L.map f) : Fam e sz g w M := by
  refine ⟨fun y hy => ?_, ?_⟩
  · have : g y ∈ L.map f := by rw [← e1]; exact List.mem_map_of_mem hy
    obtain ⟨x, hx, hxy⟩ := List.mem_map.1 this
    rw [← hxy]
    exact h.row x hx
  · have h2 : (L.map f).Pairwise fun a b => ∀ k, Own a.ad k → ¬ Own b.ad k := List.pairwise_map.2 h.dis
    rw [← e1] at h2
    exact (List.pairwise_map.1 h2 : M.Pairwise fun a b => ∀ k, Own (g a).ad k → ¬ Own (g b).ad k)
theorem Hp.add (H : Hp w0 S w l) {c : Chunk} (hk : Ck c.1 c.2 w) (ho : ∀ k, c.1 k → k < w.heap.size ∧ (k < w0.heap.size → S k)) (hd : ∀ d ∈ l, ∀ k, c.1 k → ¬ d.1 k) : Hp w0 S w (c :: l) := by
  refine ⟨H.ext, fun i j a d ha hd' hij k hka hkd => ?_, fun a ha k hka => ?_, fun a ha => ?_⟩
  · cases i with
    | zero =>
      cases j with
      | zero => exact hij rfl
      | succ j =>
        simp at ha hd'
        subst ha
        exact hd d (List.mem_of_getElem? hd') k hka hkd
    | succ i =>
      cases j with
      | zero =>
        simp at ha hd'
        subst hd'
        exact hd a (List.mem_of_getElem? ha) k hkd hka
      | succ j => exact H.dis i j a d (by simpa using ha) (by simpa using hd') (fun h => hij (by rw [h])) k hka hkd
  · rcases List.mem_cons.1 ha with rfl | ha
    · exact ho k hka
    · exact H.own a ha k hka
  · rcases List.mem_cons.1 ha with rfl | ha
    · exact hk
    · exact H.ck a ha
end
/-! one cell of an element of a row -/
section
variable {P : Program} {w : World} {t e : TypeId} {n sz : Nat} {l : List (Nat × Value)} {a : Act} {o : Oper} {x y : Operand} {v : Value} {α : Type} {enc : α → List Value}
end
end Go.Sx
