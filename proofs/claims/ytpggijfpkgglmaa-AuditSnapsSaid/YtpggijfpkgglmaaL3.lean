/- Reading turns. -/
import Derived.Test.YtpggijfpkgglmaaL0
import Derived.Test.YtpggijfpkgglmaaA23
set_option linter.unusedSimpArgs false
set_option linter.unusedVariables false
namespace Go.Proofs.Ytpggijfpkgglmaa
open Sx Go.ChangeShapes Go.WideShapes Go.ChangeAt Go.RowKit
theorem Try.ti66 : Sx.TI Try.prog 66 (.slice none 0 0) 1 24 := .mk' (by kernel_rfl)
theorem rz_ic {H : Type} {enc : TypeId × Value → H} {w : World} {base : Nat} {spare : Nat → Bool} {held : Bool} (cs : List Value) (hl : cs.length = 1) (h : Rz enc Try.prog w base spare held 3 cs) : ∃ r : Int, cs = ic r ∧ True := by
  obtain ⟨n, rfl, -, -⟩ := rz_int Try.underlying3 h
  exact ⟨n, rfl, trivial⟩

theorem argZ_ints {H : Type} {enc : TypeId × Value → H} {W : World} {v : Value} (h : ArgZ enc Try.prog W 66 v) : ∃ ad c l, v = .slice ad (List.length l) c ∧ Ss W ad ic 1 l ∧ (∀ r ∈ l, True) ∧ (ad = none → l.length = 0 ∧ c = 0) ∧ l.length ≤ c ∧ l.length * 8 ≤ 140737488351232 := by
  obtain ⟨ad, c, l, rfl, h1, h2, h3, h4, h5, h6⟩ := argZ_things (en := ic) (R := fun r => True) Try.underlying66 Try.cells3 (by decide) ic_len (fun cs hl hz => rz_ic cs hl hz) h
  rw [show Try.prog.bytesOf 3 = 8 from by kernel_rfl] at h6
  exact ⟨ad, c, l, rfl, h1, h2, h3, h4, h6⟩

end Go.Proofs.Ytpggijfpkgglmaa
