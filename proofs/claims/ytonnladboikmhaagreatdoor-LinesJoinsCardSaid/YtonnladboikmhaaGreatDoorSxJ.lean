/- Writing one cell of a row that is owned. -/
import Derived.Test.YtonnladboikmhaaGreatDoorSxI
namespace Go.Sx
section
variable {nz:Sz} {P:Program} {w:World} {t e:TypeId} {n:Nat} {l:List (Nat × Value)} {a:Act} {o:Oper} {x y:Operand} {v:Value}
end
end Go.Sx
