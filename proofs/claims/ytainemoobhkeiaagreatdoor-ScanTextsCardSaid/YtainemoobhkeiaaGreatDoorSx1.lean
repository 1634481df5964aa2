/- Function values: made, and called. -/
import Derived.Test.YtainemoobhkeiaaGreatDoorSxZ
set_option linter.unusedSimpArgs false
set_option linter.unusedVariables false
namespace Go.Sx
section
variable {P : Program} {ops : Array Oper} {Q : Exit → Act → World → Prop} {H : World → Prop} {s : List (Nat × How)} {i n d : Nat} {l : List (Nat × Value)} {a : Act} {w : World} {o : Oper} {x : Operand}
theorem x_makeFunc {f : FuncId} {xs : List Operand} {vs : List Value} (hT : Sl n l a) (hop : o.op = .makeFunc (.func f) #[] xs.toArray) (hx : opnds l xs = some vs) (w : World) :
    (execOp a.eval o).run P w = .ok (.value (.func (.func f) #[] vs.toArray)) w := by
  have h1 : (Instr.makeFunc (.func f) #[] vs.toArray).run P w = .ok (.func (.func f) #[] vs.toArray) w := rfl
  simp [execOp, hop, hT.evals hx, h1]
theorem run_callV {f : FuncId} {xs : List Operand} {ts : Array TypeId} {vs cs : List Value}
    (hT : Sl n l a) (hop : o.op = .call { callee := .value x, args := xs.toArray, argTypes := ts }) (hf : opnd l x = some (.func (.func f) #[] cs.toArray)) (hc : Can P f) (hx : opnds l xs = some vs) :
    (execOp a.eval o).run P w = .ok (.enter f (vs ++ cs).toArray) w := by
  simp [execOp, hop, resolve, Deferred.ofValue, invoke, hT.eval hf, run_callFunc hc, hT.evals hx]
theorem st_callV {f : FuncId} {xs : List Operand} {ts : Array TypeId} {vs cs : List Value} {R : Ending → World → Prop}
    (hT : Sl n l a) (ho : ops[i]? = some o) (hop : o.op = .call { callee := .value x, args := xs.toArray, argTypes := ts }) (hd : o.dst = some d) (hn : Nat.blt d n = true) (hw : wantedIn ops l o.guard = some true)
    (hf : opnd l x = some (.func (.func f) #[] cs.toArray)) (hc : Can P f) (hx : opnds l xs = some vs) (hC : Calls P f (vs ++ cs).toArray w R)
    (k : ∀ e w', R e w' → ∃ v, e = .returned v ∧ ∀ a', Sl n ((d, v) :: l) a' → Ser P ops Q H s a' w') : Ser P ops Q H ((i, .run) :: s) a w := by
  have hlt : d < n := Nat.le_of_ble_eq_true hn
  show wpOp P ops Q i (Ser P ops Q H s) a w
  simp only [wpOp, ho, hT.wanted hw, if_true, Oper.wp, run_callV hT hop hf hc hx, Oper.upon]
  refine .inl (hC.mono fun e w' hR => ?_)
  obtain ⟨v, rfl, hk⟩ := k e w' hR
  show Ser P ops Q H s (a.put o.dst v) w'
  rw [hd]
  exact hk _ (hT.put hlt v)
end
section
variable {P : Program} {n : Nat} {l : List (Nat × Value)} {a : Act} {o : Oper} {x y : Operand} {t t' e : TypeId}
end
end Go.Sx
