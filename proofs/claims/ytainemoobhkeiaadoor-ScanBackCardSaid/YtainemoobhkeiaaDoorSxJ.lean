/- Writing one cell of a row that is owned. -/
import Derived.Test.YtainemoobhkeiaaDoorSxI
namespace Go.Sx
section
variable {P : Program} {w : World} {t e : TypeId} {n : Nat} {l : List (Nat × Value)} {a : Act} {o : Oper} {x y : Operand} {v : Value}

theorem Row.own_eq {w : World} {e : TypeId} {sz n c : Nat} {ad : Option Addr} {xs : List Value} {k : Nat} (h : Own ad k) : k = ab ad := by
  cases ad with
  | none => simp [Own] at h
  | some p => simp [Own] at h; exact h.symm

theorem x_storeRow {z : Value} {by_ m c k : Nat} {ad : Option Addr} {xs : List Value} (hT : Sl n l a) (hop : o.op = .store t x y) (hti : TI P t z 1 by_) (hx : opnd l x = some (.pointer (some ⟨ab ad, ao ad + k * 1, none⟩))) (hy : opnd l y = some v)
    (hv : v.oneCell' = true) (h : Row w e 1 ad m c xs) (hk : k < m) :
    ∃ w', (execOp a.eval o).run P w = .ok .skip w' ∧ Row w' e 1 ad m c (xs.set k v) ∧ Ext (Own ad) w w' ∧ w'.heap.size = w.heap.size := by
  have hl := h.len
  rcases h.own with ⟨-, h0, -⟩ | ⟨junk, ha, hB, hc, h1, h2⟩
  · omega
  · have hao : ao ad = 0 := by rw [ha]; rfl
    rw [hao, Nat.zero_add] at hx
    obtain ⟨w', hr, hB', hE, hs⟩ := x_store1 hT hop hti hx hy hv hB (by simp only [List.length_append]; omega)
    refine ⟨w', hr, ⟨by simpa using hl, .inr ⟨junk, ha, ?_, by simpa using hc, h1, h2⟩⟩, ?_, hs⟩
    · rw [List.set_append_left _ _ (by omega), Nat.mul_one] at hB'
      exact hB'
    · have : Own ad = One (ab ad) := by rw [ha]; exact Own.one
      rw [this]
      exact hE
end
end Go.Sx
