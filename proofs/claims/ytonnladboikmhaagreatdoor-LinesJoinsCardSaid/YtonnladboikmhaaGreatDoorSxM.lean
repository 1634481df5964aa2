/- Literals of structs and slices, reckoned on lists. -/
import Derived.Test.YtonnladboikmhaaGreatDoorSxL
set_option linter.unusedSimpArgs false
set_option linter.unusedVariables false
namespace Go.Sx
def plc:List (Nat × Nat)→Nat→Option (Nat × Nat)
  | [],_=>none
  | p :: _,0=>some p
  | _ :: l,i + 1=>plc l i
theorem plc_eq:∀ (l:List (Nat × Nat)) (i:Nat),plc l i = l[i]?
  | [],i=>by simp [plc]
  | p :: l,0=>by simp [plc]
  | p :: l,i + 1=>by simp [plc,plc_eq l i]
def bldL (pl:Nat→Option (Nat × Nat)):List Value→List (Nat × Value)→Option (List Value)
  | zs,[]=>some zs
  | zs,(i,v) :: r=>match pl i,cellsOf v with
    | some p,some cs=>bif Nat.beq cs.length p.2 && !cs.isEmpty then (match puts zs p.1 cs with
      | some zs'=>bldL pl zs' r
      | none=>none) else none
    | _,_=>none
theorem puts_fold (off:Nat):∀ (cs zs:List Value) (j:Nat) (zs':List Value),puts zs (off + j) cs = some zs' →
    (cs.zipIdx j).foldl (fun (a:Array Value) (p:Value × Nat)=>a.setIfInBounds (off + p.2) p.1) zs.toArray = zs'.toArray
  | [],zs,j,zs',h=>by simp [puts] at h;simp [h]
  | c :: cs,zs,j,zs',h=>by
    simp only [puts] at h
    split at h
    · rename_i m hm
      obtain ⟨rfl,hlt⟩:=put_eq hm
      have:=puts_fold off cs (zs.set (off + j) c) (j + 1) zs' h
      simp only [List.zipIdx_cons,List.foldl_cons,List.setIfInBounds_toArray]
      exact this
    cases h
theorem bldL_fill {pl:Nat→Option (Nat × Nat)}:∀ (vs:List (Nat × Value)) (zs cs:List Value),bldL pl zs vs = some cs→Instr.fill pl zs.toArray vs = some cs.toArray
  | [],zs,cs,h=>by simp [bldL] at h;subst h;simp [Instr.fill]
  | (i,v) :: r,zs,cs,h=>by
    simp only [bldL] at h
    split at h
    · rename_i p c hp hc
      rw [Bool.cond_eq_ite] at h
      split at h
      · rename_i hb
        simp only [Bool.and_eq_true,Nat.beq_eq,Bool.not_eq_true'] at hb
        split at h
        · rename_i zs' hz
          have hv:=cellsOf_eq hc
          have hne:c ≠ []:=fun e=>by subst e;simp at hb
          have hl:=(puts_len hz).resolve_right hne
          have ih:=bldL_fill r zs' cs h
          have hf:=puts_fold p.1 c zs 0 zs' (by simpa using hz)
          obtain ⟨off,size⟩:=p
          simp only [Instr.fill,hp,hv]
          rw [if_neg (by simp;omega)]
          rw [← ih]
          congr 1
          rw [← hf]
          simp
        cases h
      cases h
    cases h
def opndPs (l:List (Nat × Value)):List (Nat × Operand)→Option (List (Nat × Value))
  | []=>some []
  | (i,x) :: r=>match opnd l x,opndPs l r with
    | some v,some vs=>some ((i,v) :: vs)
    | _,_=>none
def zrep (zc:List Value):Nat→List Value
  | 0=>[]
  | n + 1=>zc++zrep zc n
theorem zrep_get (zc:List Value):∀ (n i:Nat),i < n * zc.length→(zrep zc n)[i]? = zc[i % zc.length]?
  | 0,i,h=>by omega
  | n + 1,i,h=>by
    simp only [zrep]
    rcases Nat.lt_or_ge i zc.length with h1 | h1
    · rw [List.getElem?_append_left h1,Nat.mod_eq_of_lt h1]
    rw [List.getElem?_append_right h1,zrep_get zc n (i - zc.length) (by rw [Nat.add_mul] at h;omega),Nat.mod_eq_sub_mod h1]
theorem zrep_len (zc:List Value):∀ n,(zrep zc n).length = n * zc.length
  | 0=>by simp [zrep]
  | n + 1=>by simp [zrep,zrep_len zc n,Nat.add_mul,Nat.add_comm]
section
variable {nz:Sz} {P:Program} {n:Nat} {l:List (Nat × Value)} {a:Act} {w:World} {o:Oper} {t e:TypeId}
theorem Sl.evalPs (h:Sl nz l a):∀ {xs:List (Nat × Operand)} {vs:List (Nat × Value)},opndPs l xs = some vs→xs.map (fun p=>(p.1,a.eval p.2)) = vs
  | [],vs,hx=>by simpa [opndPs] using hx
  | (i,x) :: r,vs,hx=>by
    simp only [opndPs] at hx
    split at hx
    · rename_i u us h1 h2
      simp only [List.map_cons,h.eval h1,h.evalPs h2]
      simpa using hx
    cases hx
theorem x_bld {zs cs:List Value} {places:List (Nat × Nat)} {parts:List (Nat × Operand)} {vs:List (Nat × Value)} (hT:Sl nz l a) (hop:o.op = .build t parts.toArray) (hb:Bld P t zs.toArray places.toArray)
    (hp:opndPs l parts = some vs) (hf:bldL (plc places) zs vs = some cs) (w:World):(execOp a.eval o).run P w = .ok (.value (.agg cs.toArray)) w:=by
  have e:plc places = fun i=>(places.toArray)[i]?:=by funext i;simp [plc_eq]
  rw [e] at hf
  exact x_build hop hb (by simpa using hT.evalPs hp) (bldL_fill _ _ _ hf)
theorem x_bldS {z:Value} {sz by_ len:Nat} {parts:List (Nat × Operand)} {vs:List (Nat × Value)} {zc cells:List Value} (hT:Sl nz l a) (hop:o.op = .buildSlice t len parts.toArray) (hu:P.underlying t = some (.slice e)) (hti:TI P e z sz by_)
    (hz:cellsOf z = some zc) (hzl:Nat.beq zc.length sz = true) (hsz:Nat.blt 0 sz = true) (hlen:Nat.blt 0 len = true) (hsmall:Nat.ble (len * sz) 16777216 = true) (hp:opndPs l parts = some vs) (hf:bldL (fun i=>some (i * sz,sz)) (zrep zc len) vs = some cells) (w:World) :
    ∃ r w',(execOp a.eval o).run P w = .ok (.value r) w'∧∃ b,r = .slice (some ⟨b,0,none⟩) len len∧New w b w' cells e:=by
  have hzl:=Nat.eq_of_beq_eq_true hzl
  have hsz:0 < sz:=Nat.le_of_ble_eq_true hsz
  have hlen:0 < len:=Nat.le_of_ble_eq_true hlen
  have hpos:=Nat.mul_pos hlen hsz
  have hzc:=cellsOf_eq hz
  refine x_buildSlice (P:=P) hT hop hu hti (Nat.le_of_ble_eq_true hsmall) (by simpa using hT.evalPs hp) ?_ w
  rw [if_neg (by omega)]
  have key:(Array.range (len * sz)).map (fun i=>z.cells[i % z.cells.size]!) = (zrep zc len).toArray:=by
    apply Array.ext'
    apply List.ext_getElem?
    intro i
    rw [hzc]
    simp only [Array.toList_map,Array.toList_range,List.getElem?_map]
    rcases Nat.lt_or_ge i (len * sz) with h1 | h1
    · rw [zrep_get zc len i (by rw [hzl];exact h1)]
      have hm:i % zc.length < zc.length:=Nat.mod_lt _ (by omega)
      rw [List.getElem?_eq_getElem hm]
      simp [h1,hm]
    rw [List.getElem?_eq_none (by simpa using h1),List.getElem?_eq_none (by rw [zrep_len,hzl];exact h1)]
    rfl
  rw [key]
  exact bldL_fill _ _ _ hf
theorem x_extractL {x:Operand} {i:Nat} {vs:List Value} {v:Value} (hT:Sl nz l a) (hop:o.op = .extract x i) (hx:opnd l x = some (.tuple vs.toArray)) (hv:nth vs i = some v) (w:World):(execOp a.eval o).run P w = .ok (.value v) w:=
  x_extract hT hop hx (by simpa [nth_eq] using hv) w
theorem x_quo {x y:Operand} {t t':TypeId} {k:IntKind} {p q r:Int} (w:World) (hT:Sl nz l a) (hop:o.op = .binOp .quo t x y t') (hx:opnd l x = some (.int k p)) (hy:opnd l y = some (.int k q)) (hq:q ≠ 0) (hr:k.wrap (p.tdiv q) = r):(execOp a.eval o).run P w = .ok (.value (.int k r)) w:=
  x_bin hT hop hx hy w (by simp [binOp,Op.intDiv,hq,hr])
theorem x_rem {x y:Operand} {t t':TypeId} {k:IntKind} {p q:Int} (w:World) (hT:Sl nz l a) (hop:o.op = .binOp .rem t x y t') (hx:opnd l x = some (.int k p)) (hy:opnd l y = some (.int k q)) (hq:q ≠ 0):(execOp a.eval o).run P w = .ok (.value (.int k (p.tmod q))) w:=
  x_bin hT hop hx hy w (by simp [binOp,Op.intDiv,hq])
theorem Blk.bs1 {b:Nat} {e:TypeId} {v:Int} (h:Blk w b [.int .u8 v] e) (h0:0≤v) (h1:v≤255):Bs w (some ⟨b,0,none⟩) [UInt8.ofNat v.toNat]:=by
  have e1:(UInt8.ofNat v.toNat).toNat = v.toNat:=by rw [UInt8.toNat_ofNat'];exact Nat.mod_eq_of_lt (by omega)
  refine ⟨rfl,fun _=>rfl,?_⟩
  have:bcells [UInt8.ofNat v.toNat] = [.int .u8 v]:=by
    unfold bcells
    simp only [List.map_cons,List.map_nil,e1]
    rw [Int.toNat_of_nonneg h0]
  rw [this]
  exact h.cs_of fun j u hj=>by simpa [ao] using hj
theorem Blk.bs1n {b:Nat} {e:TypeId} {v:Int} (h:Blk w b [.int .u8 v] e) (m:Nat) (hv:v = (m:Int)) (hm:m≤255):Bs w (some ⟨b,0,none⟩) [UInt8.ofNat m]:=by
  subst hv
  have:=h.bs1 (by omega) (by omega)
  rwa [Int.toNat_natCast] at this
theorem wrap8 {z:Int} (h:0≤z∧z≤255):IntKind.u8.wrap z = z:=by
  simp only [IntKind.wrap,IntKind.signed,IntKind.bits]
  simp
  omega
theorem x_catL {x y:Operand} {t t':TypeId} {b c:List UInt8} (w:World) (hT:Sl nz l a) (hop:o.op = .binOp .add t x y t') (hx:opnd l x = some (.string ⟨b.toArray⟩)) (hy:opnd l y = some (.string ⟨c.toArray⟩)) (hs:b.length + c.length≤9223372036854775807):(execOp a.eval o).run P w = .ok (.value (.string ⟨(b++c).toArray⟩)) w:=by
  have h:=x_strcat (P:=P) w hT hop hx hy (by simpa [ByteArray.size] using hs)
  rw [h]
  congr 2
end
end Go.Sx
