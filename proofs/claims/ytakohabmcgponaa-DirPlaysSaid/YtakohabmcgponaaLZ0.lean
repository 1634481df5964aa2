/- Reading the arguments with what they weigh. -/
import Derived.Test.YtakohabmcgponaaL0
import Derived.Test.YtakohabmcgponaaSxY
import Derived.Test.YtakohabmcgponaaN6
set_option linter.unusedSimpArgs false
set_option linter.unusedVariables false
namespace Go.Proofs.Ytakohabmcgponaa
open Sx Go.ChangeShapes Go.WideShapes Go.ChangeAt Go.RowKit

theorem Try.cells9 : Try.prog.cellsOf 9 = 1 := by kernel_rfl

theorem argZ_rgs {H : Type} {enc : TypeId × Value → H} {W : World} {v : Value} (h : ArgZ enc Try.prog W 28 v) : ∃ ad c l, v = .slice ad (List.length l) c ∧ Ss W ad Rg.cells 4 l ∧ (∀ r ∈ l, r.wf) ∧ l.length ≤ c ∧ (ad = none → l.length = 0 ∧ c = 0) ∧ l.length ≤ 140737488351232 := by
  obtain ⟨ad, c, l, rfl, h1, h2, h3, h4, h5, h6⟩ := argZ_things (en := Rg.cells) (R := fun r => r.wf) Try.underlying28 Try.cells37 (by decide) Rg.len (fun cs hl hz => by
    obtain ⟨n, y, h, -⟩ := hz
    obtain ⟨a, b, c, d, e, h1, h2, h3, h4⟩ := read_rg n cs y hl h
    exact ⟨⟨a, b, c, d⟩, e, h1.1, h1.2, h2.1, h2.2, h3, h4⟩) h
  rw [show Try.prog.bytesOf 37 = 32 from by kernel_rfl] at h6
  exact ⟨ad, c, l, rfl, h1, h2, h4, h3, by omega⟩
theorem argZ_strs {H : Type} {enc : TypeId × Value → H} {W : World} {v : Value} (h : ArgZ enc Try.prog W 25 v) : ∃ ad c l, v = .slice ad (List.length l) c ∧ Ss W ad kc 1 l ∧ (∀ r ∈ l, r.length ≤ 140737488351232) ∧ l.length ≤ 140737488351232 := by
  obtain ⟨ad, c, l, rfl, h1, h2, h3, h4, h5, h6⟩ := argZ_things (en := kc) (R := fun r => r.length ≤ 140737488351232) Try.underlying25 Try.cells9 (by decide) kc_len (fun cs hl hz => rz_str Try.underlying9 hz) h
  rw [show Try.prog.bytesOf 9 = 16 from by kernel_rfl] at h6
  exact ⟨ad, c, l, rfl, h1, h2, by omega⟩

end Go.Proofs.Ytakohabmcgponaa
