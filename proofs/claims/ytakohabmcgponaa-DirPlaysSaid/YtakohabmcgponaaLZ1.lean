/- Reading lists of lists. -/
import Derived.Test.YtakohabmcgponaaLZ0
import Derived.Test.YtakohabmcgponaaN8
set_option linter.unusedSimpArgs false
set_option linter.unusedVariables false
namespace Go.Proofs.Ytakohabmcgponaa
open Sx Go.ChangeShapes Go.WideShapes Go.ChangeAt Go.RowKit

theorem argZ_more {H : Type} {enc : TypeId × Value → H} {W : World} {v : Value} (h : ArgZ enc Try.prog W 52 v) : ∃ ad c l, v = .slice ad (List.length l) c ∧ Ss W ad Ml.cells 1 l ∧ ∀ x ∈ l, Ss W x.ad Rg.cells 4 x.l ∧ ∀ r ∈ x.l, r.wf := by
  obtain ⟨ad, c, l, rfl, h1, h2, -⟩ := argZ_things (en := Ml.cells) (R := fun x => Ss W x.ad Rg.cells 4 x.l ∧ ∀ r ∈ x.l, r.wf) Try.underlying52 Try.cells28 (by decide) Ml.len (fun cs hl hz => by
    obtain ⟨a, b, m, rfl, g1, g2, -⟩ := rz_things (en := Rg.cells) (R := fun r => r.wf) Try.underlying28 Try.cells37 (by decide) Rg.len (fun cs hl hz => by
      obtain ⟨n, y, h, -⟩ := hz
      obtain ⟨a, b, c, d, e, h1, h2, h3, h4⟩ := read_rg n cs y hl h
      exact ⟨⟨a, b, c, d⟩, e, h1.1, h1.2, h2.1, h2.2, h3, h4⟩) hz
    exact ⟨⟨a, b, m⟩, rfl, g1, g2⟩) h
  exact ⟨ad, c, l, rfl, h1, h2⟩

end Go.Proofs.Ytakohabmcgponaa
