/- Reading structs and texts out of arguments; the way from a walk to a row that lists tables. -/
import Derived.Test.YtonnladboikmhaaGreatDoorSxO
import Derived.LaidMore
import Derived.Stop.Joined
import Derived.Lib.LaidTab
import Derived.Stop.LaidErr
namespace Go.Sx
open Go.ChangeShapes Go.WideShapes Go.ChangeAt Go.RowKit
section
variable {H : Type} {enc : TypeId × Value → H} {P : Program} {w : World} {base : Nat} {spare : Nat → Bool} {held : Bool}
theorem read_flt {t : TypeId} {fuel : Nat} {cs : List Value} {x : DataW H × List MemPlace} (ht : P.underlying t = some (.float .f64)) (h : DataW.trod enc P w base spare held fuel t cs = some x) : ∃ b : Nat, cs = [.float .f64 b] ∧ b < 2 ^ 64 := by
  cases fuel with
  | zero => simp [DataW.trod] at h
  | succ n =>
    unfold DataW.trod at h
    rw [ht] at h
    split at h <;> first | (exfalso; simp_all; done) | skip
    rename_i k0 k1 b heq
    injection heq with heq
    injection heq with heq
    subst heq
    split at h
    · rename_i hw
      obtain ⟨rfl, hw⟩ := hw
      exact ⟨b, rfl, of_decide_eq_true hw⟩
    · cases h
theorem laid_plain {laid : List (String × DataW Unit)} {W : World} (hp : (laid.all fun x => x.2.handleName?.isNone) = true) (h : laidMetH P laid W) : laidMet P laid W := by
  rwa [MakeChecks.laidMetH_plain _ _ _ hp] at h
end
end Go.Sx
