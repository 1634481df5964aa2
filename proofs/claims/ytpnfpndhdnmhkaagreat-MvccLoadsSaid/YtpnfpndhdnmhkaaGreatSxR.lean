/- Floats: arithmetic up to which NaN it is, comparisons, whole numbers as floats. -/
import Derived.Test.YtpnfpndhdnmhkaaGreatSxQ
import Derived.Laws.FloatArith
set_option linter.unusedSimpArgs false
set_option linter.unusedVariables false
namespace Go.Sx
def fnan : Nat := 9221120237041090560
def fnum (b : Nat) : Bool := Op.floatEq .f64 b b
def fcan (b : Nat) : Nat := if fnum b = true then b else fnan
section
variable {P : Program}
end
section
variable {P : Program} {n : Nat} {l : List (Nat × Value)} {a : Act} {o : Oper} {x y : Operand} {t t' : TypeId} {b c : Nat}
end
/-! bits of words without a sign -/
section
variable {P : Program} {n : Nat} {l : List (Nat × Value)} {a : Act} {o : Oper} {x y : Operand} {t t' : TypeId}
end
end Go.Sx
