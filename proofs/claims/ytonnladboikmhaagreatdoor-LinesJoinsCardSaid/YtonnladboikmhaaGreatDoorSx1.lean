/- Function values: made, and called. -/
import Derived.Test.YtonnladboikmhaaGreatDoorSxZ
set_option linter.unusedSimpArgs false
set_option linter.unusedVariables false
namespace Go.Sx
section
variable {nz:Sz} {P:Program} {ops:Array Oper} {Q:Exit→Act→World→Prop} {H:World→Prop} {s:List (Nat × How)} {i n d:Nat} {l:List (Nat × Value)} {a:Act} {w:World} {o:Oper} {x:Operand}
theorem x_makeFunc {f:FuncId} {xs:List Operand} {vs:List Value} (hT:Sl nz l a) (hop:o.op = .makeFunc (.func f) #[] xs.toArray) (hx:opnds l xs = some vs) (w:World) :
    (execOp a.eval o).run P w = .ok (.value (.func (.func f) #[] vs.toArray)) w:=by
  have h1:(Instr.makeFunc (.func f) #[] vs.toArray).run P w = .ok (.func (.func f) #[] vs.toArray) w:=rfl
  simp [execOp,hop,hT.evals hx,h1]
end
section
variable {nz:Sz} {P:Program} {n:Nat} {l:List (Nat × Value)} {a:Act} {o:Oper} {x y:Operand} {t t' e:TypeId}
end
end Go.Sx
