/- What is wrong with a query, plainly. -/
import Derived.Test.YtainemoobhkeiaaDoorN2
set_option linter.unusedSimpArgs false
set_option linter.unusedVariables false
namespace Go.Proofs.YtainemoobhkeiaaDoor
open Sx

def checkQ (q : Query) : Int :=
  if 24 < q.fr.length ∨ 24 < q.to.length ∨ 24 < q.after.length then 2 else if q.kind < 0 ∨ 2 < q.kind then 7 else if mayV q.lo = false ∨ mayV q.hi = false then 4 else if q.most < 1 ∨ 1000 < q.most then 1 else 0
def low (n : Nat) : Int := min n 20001
def weighQ (q : Query) : Int := low q.fr.length + low q.to.length + low q.after.length + low q.lo.text.length + low q.hi.text.length
def weighP (p : Pair) : Int := low p.key.length + low p.val.text.length
def Query.cells (q : Query) : List Value := [.string ⟨q.fr.toArray⟩, .string ⟨q.to.toArray⟩, .int .i64 q.kind, .int .i64 q.lo.kind, .float .f64 q.lo.num, .string ⟨q.lo.text.toArray⟩, .int .i64 q.hi.kind, .float .f64 q.hi.num, .string ⟨q.hi.text.toArray⟩, .bool q.back, .int .i64 q.most, .string ⟨q.after.toArray⟩]
def Pair.cells (p : Pair) : List Value := [.string ⟨p.key.toArray⟩, .int .i64 p.val.kind, .float .f64 p.val.num, .string ⟨p.val.text.toArray⟩]
theorem Pair.len (p : Pair) : p.cells.length = 4 := rfl

end Go.Proofs.YtainemoobhkeiaaDoor
