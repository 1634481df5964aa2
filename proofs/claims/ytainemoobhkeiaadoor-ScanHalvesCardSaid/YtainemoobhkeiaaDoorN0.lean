/- Floats by their bits, plainly. -/
import Derived.Test.YtainemoobhkeiaaDoorSxN
set_option linter.unusedSimpArgs false
set_option linter.unusedVariables false
namespace Go.Proofs.YtainemoobhkeiaaDoor
open Sx

def isnum (b : Nat) : Bool := Op.floatEq .f64 b b
def bits (b : Nat) : Nat := if isnum b = true then b else 9221120237041090560

def sgn : Int := 9223372036854775808
def rank (b : Nat) : Int := if uand (bits b) sgn = 0 then uor (bits b) sgn else uxor 18446744073709551615 (bits b)
def order (a b : Int) : Int := if a < b then -1 else if b < a then 1 else 0

end Go.Proofs.YtainemoobhkeiaaDoor
