/- More laws: literals of slices, bytes and strings, copy, make, clear. -/
import Derived.Test.YtonnladboikmhaaGreatDoorSxE
namespace Go.Sx
def bcells (l:List UInt8):List Value:=l.map fun b=>.int .u8 b.toNat
theorem bcells_len (l:List UInt8):(bcells l).length = l.length:=by simp [bcells]
theorem bcells_get (l:List UInt8) (j:Nat):(bcells l)[j]? = (l[j]?).map fun b=>Value.int .u8 b.toNat:=by simp [bcells]
theorem bcells_append (l m:List UInt8):bcells (l++m) = bcells l++bcells m:=by simp [bcells]
def Bs (w:World) (ad:Option Addr) (l:List UInt8):Prop:=Sv w ad l.length 1 (bcells l)
section
variable {nz:Sz} {P:Program} {n:Nat} {l:List (Nat × Value)} {a:Act} {w:World} {o:Oper} {t e:TypeId} {x y:Operand} {v:Value}
theorem x_buildSlice {z:Value} {sz by_ len:Nat} {parts:Array (Nat × Operand)} {vs:List (Nat × Value)} {cells:List Value} (hT:Sl nz l a) (hop:o.op = .buildSlice t len parts) (hu:P.underlying t = some (.slice e)) (hti:TI P e z sz by_)
    (hsmall:len * sz≤16777216) (hp:(parts.map fun (i,x)=>(i,a.eval x)).toList = vs)
    (hf:Instr.fill (fun i=>some (i * sz,sz)) ((Array.range (len * sz)).map ((if len * sz = 0 then #[] else z.cells)[· % (if len * sz = 0 then #[] else z.cells).size]!)) vs = some cells.toArray) (w:World) :
    ∃ r w',(execOp a.eval o).run P w = .ok (.value r) w'∧∃ b,r = .slice (some ⟨b,0,none⟩) len len∧New w b w' cells e:=by
  have _:=hT
  subst hp
  refine ⟨_,w.alloc (.cells cells.toArray e),?_,_,rfl,New.alloc w cells e⟩
  have h1:¬ (16777216 < len * sz):=by omega
  by_cases h0:len * sz = 0
  · simp only [h0,if_true] at hf
    simp [execOp,hop,Instr.buildSlice,run_underlying hu,run_sizeOf hti,h0,newRow]
    simp at hf
    simp [hf]
  simp only [h0,if_false] at hf
  simp [execOp,hop,Instr.buildSlice,run_underlying hu,run_sizeOf hti,run_zeroValue hti,h0,h1,newRow]
  simp at hf
  simp [hf]
theorem run_bytes_string {ad:Option Addr} {c:Nat} {s:List UInt8} {t':TypeId} (hs:Bs w ad s) (hu:P.underlying t = some (.slice e)) (he:P.underlying e = some (.int .u8)) (hd:P.underlying t' = some .string) :
    (convert t t' (.slice ad s.length c)).run P w = .ok (.string ⟨s.toArray⟩) w:=by
  rcases Nat.eq_zero_or_pos s.length with h0 | h0
  · have:s = []:=List.eq_nil_of_length_eq_zero h0
    subst this
    cases ad with
    | none=>exact run_convert_bytes_nil (P:=P) w t e hu he 0 c t' hd
    | some p=>
      simp [convert,run_underlying hu,run_underlying he,run_underlying hd,Conv.bytesToString,loadCells,loadCellsFrom]
      rfl
  rw [hs.pos h0]
  have:=run_convert_bytes_arg (P:=P) w t e hu he (ab ad) (ao ad) s.length c (s.map fun b=>(b.toNat:Int)) (by simp) (fun i hi=>hs.cs.at (by
    rw [bcells_get,List.getElem?_eq_getElem hi]
    simp [List.getD,hi])) t' hd
  rw [this]
  congr 2
  simp [strOfNums,Function.comp_def]
theorem x_bytes_string {ad:Option Addr} {m c:Nat} {s:List UInt8} {t':TypeId} (hT:Sl nz l a) (hop:o.op = .convert t t' x) (hs:Bs w ad s) (hu:P.underlying t = some (.slice e)) (he:P.underlying e = some (.int .u8)) (hd:P.underlying t' = some .string)
    (hx:opnd l x = some (.slice ad m c)) (hm:m = s.length):(execOp a.eval o).run P w = .ok (.value (.string ⟨s.toArray⟩)) w:=by
  subst hm
  simp [execOp,hop,hT.eval hx,run_bytes_string hs hu he hd]
end
end Go.Sx
