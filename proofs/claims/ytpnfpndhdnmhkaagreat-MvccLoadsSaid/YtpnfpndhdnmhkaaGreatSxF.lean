/- More laws: literals of slices, bytes and strings, copy, make, clear. -/
import Derived.Test.YtpnfpndhdnmhkaaGreatSxE
namespace Go.Sx
def bcells (l : List UInt8) : List Value := l.map fun b => .int .u8 b.toNat
theorem bcells_get (l : List UInt8) (j : Nat) : (bcells l)[j]? = (l[j]?).map fun b => Value.int .u8 b.toNat := by simp [bcells]
def Bs (w : World) (ad : Option Addr) (l : List UInt8) : Prop := Sv w ad l.length 1 (bcells l)
section
variable {P : Program} {n : Nat} {l : List (Nat × Value)} {a : Act} {w : World} {o : Oper} {t e : TypeId} {x y : Operand} {v : Value}
theorem x_buildSlice {z : Value} {sz by_ len : Nat} {parts : Array (Nat × Operand)} {vs : List (Nat × Value)} {cells : List Value} (hT : Sl n l a) (hop : o.op = .buildSlice t len parts) (hu : P.underlying t = some (.slice e)) (hti : TI P e z sz by_)
    (hsmall : len * sz ≤ 16777216) (hp : (parts.map fun (i, x) => (i, a.eval x)).toList = vs)
    (hf : Instr.fill (fun i => some (i * sz, sz)) ((Array.range (len * sz)).map ((if len * sz = 0 then #[] else z.cells)[· % (if len * sz = 0 then #[] else z.cells).size]!)) vs = some cells.toArray) (w : World) :
    ∃ r w', (execOp a.eval o).run P w = .ok (.value r) w' ∧ ∃ b, r = .slice (some ⟨b, 0, none⟩) len len ∧ New w b w' cells e := by
  have _ := hT
  subst hp
  refine ⟨_, w.alloc (.cells cells.toArray e), ?_, _, rfl, New.alloc w cells e⟩
  have h1 : ¬ (16777216 < len * sz) := by omega
  by_cases h0 : len * sz = 0
  · simp only [h0, if_true] at hf
    simp [execOp, hop, Instr.buildSlice, run_underlying hu, run_sizeOf hti, h0, newRow]
    simp at hf
    simp [hf]
  · simp only [h0, if_false] at hf
    simp [execOp, hop, Instr.buildSlice, run_underlying hu, run_sizeOf hti, run_zeroValue hti, h0, h1, newRow]
    simp at hf
    simp [hf]
end
end Go.Sx
