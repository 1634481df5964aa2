/- Slices that a contract of the kit's has built, where draws are counted (calls_drawn gives that none falls back). -/
import Derived.Test.YtpnfpndhdnmhkaaGreatSx0
import Derived.Test.YtpnfpndhdnmhkaaGreatSx2
import Derived.Test.YtpnfpndhdnmhkaaGreatSxW
set_option linter.unusedSimpArgs false
set_option linter.unusedVariables false
namespace Go.Sx
section
variable {w w' : World} {base n sz : Nat} {e : TypeId} {v : Value} {xs : List Value}
theorem Ext.of_belowD (h : Go.RowKit.Below w.heap.size w w') (hd : w.drawn ≤ w'.drawn) : Ext No w w' := ⟨h.os, h.tape, h.output, h.size, fun k hk _ => h.block k hk, dr_of hd⟩
theorem Hp.ownedD (hb : Go.RowKit.Below w.heap.size w w') (hd : w.drawn ≤ w'.drawn) (h : w'.ownsRow w.heap.size e sz v n xs) : ∃ ad c, v = .slice ad n c ∧ Hp w No w' [cR e sz ad n c xs] := by
  obtain ⟨ad, c, rfl, hr, hk⟩ := Row.of_ownsB h
  refine ⟨ad, c, rfl, (Hp.start No w).cons (Ext.of_belowD hb hd) hr.ck fun k h1 => ⟨hk k h1, ?_⟩⟩
  rcases hr.own with ⟨h2, -, -⟩ | ⟨junk, ha, hB, -⟩
  · rw [h2] at h1; simp [Own] at h1
  · have e9 : Own ad = One (ab ad) := by rw [ha]; exact Own.one
    have h3 : Own ad k := h1
    rw [e9] at h3
    have : k = ab ad := h3
    rw [this]; exact hB.lt
end
section
variable {P : Program} {n : Nat} {l : List (Nat × Value)} {a : Act} {o : Oper} {x : Operand} {t k e : TypeId} {w : World} {b : Nat} {D : DataW Value}
end
end Go.Sx
