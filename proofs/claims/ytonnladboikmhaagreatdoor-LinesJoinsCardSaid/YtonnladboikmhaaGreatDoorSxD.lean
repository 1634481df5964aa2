/- Laws for the operations that only compute or read. -/
import Derived.Test.YtonnladboikmhaaGreatDoorSxC
namespace Go.Sx
structure TI (P:Program) (t:TypeId) (z:Value) (sz by_:Nat):Prop where
  ti:∃ i,P.info? t = some i∧i.zero = some z∧i.size = sz∧i.bytes = by_
theorem TI.mk' {P:Program} {t:TypeId} {z:Value} {sz by_:Nat} (h:(P.info? t).map (fun i=>(i.zero,i.size,i.bytes)) = some (some z,sz,by_)):TI P t z sz by_:=by
  cases hi:P.info? t with
  | none=>simp [hi] at h
  | some i=>
    simp [hi] at h
    exact ⟨i,hi,h.1,h.2.1,h.2.2⟩
structure Flat (P:Program) (t:TypeId):Prop where
  fl:∃ d,P.underlying t = some d∧(match d with | .struct _ | .array _ _=>False | _=>True)
structure FA (P:Program) (s:TypeId) (f:Nat) (k:Nat):Prop where
  fa:∃ fs fd z sz by_,P.underlying s = some (.struct fs)∧fs[f]? = some fd∧fd.offset = k∧TI P fd.type z sz by_∧sz ≠ 0
structure FV (P:Program) (s:TypeId) (f:Nat) (k:Nat) (t:TypeId):Prop where
  fv:∃ fs fd,P.underlying s = some (.struct fs)∧fs[f]? = some fd∧fd.offset = k∧fd.type = t
theorem add_addr (b o k:Nat):(⟨b,o,none⟩:Addr).add k = ⟨b,o + k,none⟩:=by
  unfold Addr.add
  split
  · subst_vars;rfl
  rfl
section
variable {nz:Sz} {P:Program} {n:Nat} {l:List (Nat × Value)} {a:Act} {o:Oper} {x y:Operand} {v u:Value} {t:TypeId}
theorem run_sizeOf {z:Value} {sz by_:Nat} (h:TI P t z sz by_) (w:World):(sizeOf t).run P w = .ok sz w:=by
  obtain ⟨i,hi,-,hs,-⟩:=h.ti
  simp [sizeOf,typeInfo,hi,hs]
theorem run_zeroValue {z:Value} {sz by_:Nat} (h:TI P t z sz by_) (w:World):(zeroValue t).run P w = .ok z w:=by
  obtain ⟨i,hi,hz,-,-⟩:=h.ti
  simp [zeroValue,typeInfo,hi,hz]
theorem run_isAgg_flat (h:Flat P t) (w:World):(isAgg t).run P w = .ok false w:=by
  obtain ⟨d,hu,hd⟩:=h.fl
  cases d <;> simp_all [isAgg,run_underlying hu]
theorem run_isAgg_struct {fs:Array Field} (hu:P.underlying t = some (.struct fs)) (w:World):(isAgg t).run P w = .ok true w:=by
  simp [isAgg,run_underlying hu]
theorem run_isAgg_array {m:Nat} {e:TypeId} (hu:P.underlying t = some (.array m e)) (w:World):(isAgg t).run P w = .ok true w:=by
  simp [isAgg,run_underlying hu]
/-! copies -/
theorem x_move (hT:Sl nz l a) (hop:o.op = .move x) (hx:opnd l x = some v) (w:World):(execOp a.eval o).run P w = .ok (.value v) w:=by
  simp [execOp,hop,hT.eval hx]
theorem x_assign (hT:Sl nz l a) (hop:o.op = .assign x) (hx:opnd l x = some v) (w:World):(execOp a.eval o).run P w = .ok (.value v) w:=by
  simp [execOp,hop,hT.eval hx]
theorem x_pick_t {c:Operand} (hT:Sl nz l a) (hop:o.op = .pick c x y) (hc:opnd l c = some (.bool true)) (hx:opnd l x = some v) (w:World):(execOp a.eval o).run P w = .ok (.value v) w:=by
  simp [execOp,hop,hT.eval hx,hT.eval hc,asBool]
theorem x_pick_f {c:Operand} (hT:Sl nz l a) (hop:o.op = .pick c x y) (hc:opnd l c = some (.bool false)) (hy:opnd l y = some v) (w:World):(execOp a.eval o).run P w = .ok (.value v) w:=by
  simp [execOp,hop,hT.eval hy,hT.eval hc,asBool]
/-! addresses -/
theorem x_nilCheck {ad:Addr} (hT:Sl nz l a) (hop:o.op = .nilCheck x) (hx:opnd l x = some (.pointer (some ad))) (w:World):(execOp a.eval o).run P w = .ok (.value (.pointer (some ad))) w:=by
  simp [execOp,hop,hT.eval hx]
theorem x_fieldAddr {s:TypeId} {f k b off:Nat} (hT:Sl nz l a) (hop:o.op = .fieldAddr s x f) (hfa:FA P s f k) (hx:opnd l x = some (.pointer (some ⟨b,off,none⟩))) (w:World) :
    (execOp a.eval o).run P w = .ok (.value (.pointer (some ⟨b,off + k,none⟩))) w:=by
  obtain ⟨fs,fd,z,sz,by_,hu,hf,rfl,hti,hsz⟩:=hfa.fa
  simp [execOp,hop,hT.eval hx,Instr.fieldAt,run_underlying hu,hf,Instr.sureAddr,fieldPlace,run_sizeOf hti,hsz,add_addr]
theorem x_indexAddr {e:TypeId} {z:Value} {sz by_ b off m c k:Nat} {i:Int} {ik:IntKind} (hT:Sl nz l a) (hop:o.op = .indexAddr t x y) (hu:P.underlying t = some (.slice e)) (hti:TI P e z sz by_)
    (hx:opnd l x = some (.slice (some ⟨b,off,none⟩) m c)) (hy:opnd l y = some (.int ik i)) (hi:i = (k:Int)) (hk:k < m) (w:World) :
    (execOp a.eval o).run P w = .ok (.value (.pointer (some ⟨b,off + k * sz,none⟩))) w:=by
  subst hi
  simp [execOp,hop,hT.eval hx,hT.eval hy,Instr.indexAt,run_underlying hu,asIntOf,hk,run_sizeOf hti,add_addr]
theorem x_indexAddr_array {e:TypeId} {z:Value} {sz by_ b off m k:Nat} {i:Int} {ik:IntKind} (hT:Sl nz l a) (hop:o.op = .indexAddr t x y) (hu:P.underlying t = some (.array m e)) (hti:TI P e z sz by_)
    (hx:opnd l x = some (.pointer (some ⟨b,off,none⟩))) (hy:opnd l y = some (.int ik i)) (hi:i = (k:Int)) (hk:k < m) (w:World) :
    (execOp a.eval o).run P w = .ok (.value (.pointer (some ⟨b,off + k * sz,none⟩))) w:=by
  subst hi
  simp [execOp,hop,hT.eval hx,hT.eval hy,Instr.indexAt,run_underlying hu,asIntOf,hk,run_sizeOf hti,add_addr,Instr.sureAddr]
/-! loads -/
theorem run_load {ad:Addr} {w:World} (hc:w.cell? ad = some v):(load ad).run P w = .ok v w:=by
  simp [load,Sem.run,hc]
theorem run_loadVar1 {ad:Addr} {w:World} (hf:Flat P t) (hc:w.cell? ad = some v):(loadVar t ad).run P w = .ok v w:=by
  simp [loadVar,run_isAgg_flat hf,hc]
theorem run_loadCellsFrom {b off:Nat} {w:World}:∀ (vs:List Value) (i:Nat) (acc:Array Value),Cs w b (off + i) vs →
    (loadCellsFrom ⟨b,off,none⟩ i vs.length acc).run P w = .ok (acc++vs.toArray) w
  | [],i,acc,_=>by simp [loadCellsFrom]
  | v :: vs,i,acc,h=>by
    have h0:w.cell? ⟨b,off + i,none⟩ = some v:=by simpa using h 0 v rfl
    have ih:=run_loadCellsFrom (off:=off) vs (i + 1) (acc.push v) (by simpa [Nat.add_assoc] using (h.drop 1))
    simp only [List.length_cons,loadCellsFrom,Sem.run_bind,add_addr,run_load h0,Result.andThen_ok,ih]
    simp
theorem run_loadCells {b off:Nat} {w:World} {vs:List Value} (h:Cs w b off vs):(loadCells ⟨b,off,none⟩ vs.length).run P w = .ok vs.toArray w:=by
  have:=run_loadCellsFrom (P:=P) (off:=off) vs 0 #[] (by simpa using h)
  simpa [loadCells] using this
theorem run_loadVarS {b off:Nat} {w:World} {vs:List Value} {fs:Array Field} {z:Value} {by_:Nat} (hu:P.underlying t = some (.struct fs)) (hti:TI P t z vs.length by_) (h:Cs w b off vs) :
    (loadVar t ⟨b,off,none⟩).run P w = .ok (.agg vs.toArray) w:=by
  simp [loadVar,run_isAgg_struct hu,run_sizeOf hti,run_loadCells h]
theorem run_loadVarA {b off:Nat} {w:World} {vs:List Value} {m:Nat} {e:TypeId} {z:Value} {by_:Nat} (hu:P.underlying t = some (.array m e)) (hti:TI P t z vs.length by_) (h:Cs w b off vs) :
    (loadVar t ⟨b,off,none⟩).run P w = .ok (.agg vs.toArray) w:=by
  simp [loadVar,run_isAgg_array hu,run_sizeOf hti,run_loadCells h]
theorem x_load {ad:Addr} {w:World} (hT:Sl nz l a) (hop:o.op = .load t x) (hx:opnd l x = some (.pointer (some ad))) (hl:(loadVar t ad).run P w = .ok v w) :
    (execOp a.eval o).run P w = .ok (.value v) w:=by
  simp [execOp,hop,hT.eval hx,Instr.loadAt,Instr.sureAddr,hl]
theorem x_load1 {ad:Addr} {w:World} (hT:Sl nz l a) (hop:o.op = .load t x) (hf:Flat P t) (hx:opnd l x = some (.pointer (some ad))) (hc:w.cell? ad = some v) :
    (execOp a.eval o).run P w = .ok (.value v) w:=x_load hT hop hx (run_loadVar1 hf hc)
theorem x_loadS {b off:Nat} {w:World} {vs:List Value} {fs:Array Field} {z:Value} {by_:Nat} (hT:Sl nz l a) (hop:o.op = .load t x) (hu:P.underlying t = some (.struct fs)) (hti:TI P t z vs.length by_)
    (hx:opnd l x = some (.pointer (some ⟨b,off,none⟩))) (hc:Cs w b off vs):(execOp a.eval o).run P w = .ok (.value (.agg vs.toArray)) w:=x_load hT hop hx (run_loadVarS hu hti hc)
/-! numbers -/
theorem wrap64 {z:Int} (h:-9223372036854775808≤z∧z≤9223372036854775807):IntKind.i64.wrap z = z:=IntWalk.i64_in z h
theorem x_bin (hT:Sl nz l a) {op:BinOp} {t t':TypeId} (hop:o.op = .binOp op t x y t') {k:IntKind} {p q:Int} {r:Value} (hx:opnd l x = some (.int k p)) (hy:opnd l y = some (.int k q)) (w:World)
    (hr:(binOp op t (.int k p) (.int k q)).run P w = .ok r w):(execOp a.eval o).run P w = .ok (.value r) w:=by
  cases op <;> simp [execOp,hop,hT.eval hx,hT.eval hy,eqGuard,hr]
section
variable {t':TypeId} {k:IntKind} {p q r:Int} (w:World)
theorem x_add (hT:Sl nz l a) (hop:o.op = .binOp .add t x y t') (hx:opnd l x = some (.int k p)) (hy:opnd l y = some (.int k q)) (hr:k.wrap (p + q) = r):(execOp a.eval o).run P w = .ok (.value (.int k r)) w:=
  x_bin hT hop hx hy w (by simp [binOp,Op.intArith,hr])
theorem x_sub (hT:Sl nz l a) (hop:o.op = .binOp .sub t x y t') (hx:opnd l x = some (.int k p)) (hy:opnd l y = some (.int k q)) (hr:k.wrap (p - q) = r):(execOp a.eval o).run P w = .ok (.value (.int k r)) w:=
  x_bin hT hop hx hy w (by simp [binOp,Op.intArith,hr])
theorem x_mul (hT:Sl nz l a) (hop:o.op = .binOp .mul t x y t') (hx:opnd l x = some (.int k p)) (hy:opnd l y = some (.int k q)) (hr:k.wrap (p * q) = r):(execOp a.eval o).run P w = .ok (.value (.int k r)) w:=
  x_bin hT hop hx hy w (by simp [binOp,Op.intArith,hr])
theorem x_lt (hT:Sl nz l a) (hop:o.op = .binOp .lss t x y t') (hx:opnd l x = some (.int k p)) (hy:opnd l y = some (.int k q)):(execOp a.eval o).run P w = .ok (.value (.bool (decide (p < q)))) w:=
  x_bin hT hop hx hy w (by simp [binOp,Op.intCmp])
theorem x_le (hT:Sl nz l a) (hop:o.op = .binOp .leq t x y t') (hx:opnd l x = some (.int k p)) (hy:opnd l y = some (.int k q)):(execOp a.eval o).run P w = .ok (.value (.bool (decide (p≤q)))) w:=
  x_bin hT hop hx hy w (by simp [binOp,Op.intCmp])
theorem x_gt (hT:Sl nz l a) (hop:o.op = .binOp .gtr t x y t') (hx:opnd l x = some (.int k p)) (hy:opnd l y = some (.int k q)):(execOp a.eval o).run P w = .ok (.value (.bool (decide (q < p)))) w:=
  x_bin hT hop hx hy w (by simp [binOp,Op.intCmp])
theorem x_ge (hT:Sl nz l a) (hop:o.op = .binOp .geq t x y t') (hx:opnd l x = some (.int k p)) (hy:opnd l y = some (.int k q)):(execOp a.eval o).run P w = .ok (.value (.bool (decide (q≤p)))) w:=
  x_bin hT hop hx hy w (by simp [binOp,Op.intCmp])
theorem x_eq (hT:Sl nz l a) (hop:o.op = .binOp .eql t x y t') (hx:opnd l x = some (.int k p)) (hy:opnd l y = some (.int k q)):(execOp a.eval o).run P w = .ok (.value (.bool (decide (p = q)))) w:=
  x_bin hT hop hx hy w (by simp [binOp,Op.intCmp];rfl)
theorem x_ne (hT:Sl nz l a) (hop:o.op = .binOp .neq t x y t') (hx:opnd l x = some (.int k p)) (hy:opnd l y = some (.int k q)):(execOp a.eval o).run P w = .ok (.value (.bool (!decide (p = q)))) w:=
  x_bin hT hop hx hy w (by simp [binOp,Op.intCmp,bne];rfl)
theorem x_neg (hT:Sl nz l a) (hop:o.op = .unOp .neg t x) (hx:opnd l x = some (.int k p)) (hr:k.wrap (-p) = r):(execOp a.eval o).run P w = .ok (.value (.int k r)) w:=by
  simp [execOp,hop,hT.eval hx,Op.unary,Op.intArith,hr]
theorem x_toint (hT:Sl nz l a) {k':IntKind} (hop:o.op = .convert t t' x) {d:TypeDesc} (hu0:P.underlying t = some d) (hu:P.underlying t' = some (.int k')) (hx:opnd l x = some (.int k p)) (hr:k'.wrap p = r):(execOp a.eval o).run P w = .ok (.value (.int k' r)) w:=by
  simp [execOp,hop,hT.eval hx,convert,run_underlying hu0,run_underlying hu,Conv.intToInt,hr]
end
/-! Bools -/
theorem x_not {b:Bool} (hT:Sl nz l a) (hop:o.op = .unOp .not t x) (hx:opnd l x = some (.bool b)) (w:World):(execOp a.eval o).run P w = .ok (.value (.bool (!b))) w:=by
  simp [execOp,hop,hT.eval hx,Op.unary]
theorem x_eql {t':TypeId} {b:Bool} {w:World} (hT:Sl nz l a) (hop:o.op = .binOp .eql t x y t') (hx:opnd l x = some v) (hy:opnd l y = some u)
    (hg:(eqGuard .eql t x y v u).run P w = .ok () w) (hb:(binOp .eql t v u).run P w = .ok (.bool b) w):(execOp a.eval o).run P w = .ok (.value (.bool b)) w:=by
  simp only [execOp,hop,hT.eval hx,hT.eval hy,Sem.run_bind,hg,hb,Result.andThen_ok,Sem.run_pure]
theorem x_neq {t':TypeId} {b:Bool} {w:World} (hT:Sl nz l a) (hop:o.op = .binOp .neq t x y t') (hx:opnd l x = some v) (hy:opnd l y = some u)
    (hg:(eqGuard .neq t x y v u).run P w = .ok () w) (hb:(binOp .neq t v u).run P w = .ok (.bool b) w):(execOp a.eval o).run P w = .ok (.value (.bool b)) w:=by
  simp only [execOp,hop,hT.eval hx,hT.eval hy,Sem.run_bind,hg,hb,Result.andThen_ok,Sem.run_pure]
theorem run_eqof {v u:Value} {b:Bool} {w:World} (he:binOp .eql t v u = (do pure (.bool (← Op.equal t v u)))) (hb:(Op.equal t v u).run P w = .ok b w):(binOp .eql t v u).run P w = .ok (.bool b) w:=by
  rw [he];simp only [Sem.run_bind,hb,Result.andThen_ok,Sem.run_pure]
theorem run_neof {v u:Value} {b:Bool} {w:World} (he:binOp .neq t v u = (do pure (.bool (!(← Op.equal t v u))))) (hb:(Op.equal t v u).run P w = .ok b w):(binOp .neq t v u).run P w = .ok (.bool (!b)) w:=by
  rw [he];simp only [Sem.run_bind,hb,Result.andThen_ok,Sem.run_pure]
/-! pointers against nil -/
/-! strings -/
theorem slt_tri:∀ (x y:List UInt8),(Op.bytesLess x y || x == y) = !Op.bytesLess y x
  | [],[]=>by simp [Op.bytesLess]
  | [],_ :: _=>by simp [Op.bytesLess]
  | _ :: _,[]=>by simp [Op.bytesLess]
  | a :: x,b :: y=>by
    have ih:=slt_tri x y
    simp only [Op.bytesLess]
    rcases Nat.lt_trichotomy a.toNat b.toNat with h | h | h
    · have h1:a < b:=UInt8.lt_iff_toNat_lt.2 h
      have h2:¬ b < a:=fun k=>by have:=UInt8.lt_iff_toNat_lt.1 k;omega
      have h3:¬ b = a:=fun e=>by subst e;omega
      simp [h1,h2,h3]
    · have e:a = b:=UInt8.toNat_inj.1 h
      subst e
      have h1:¬ a < a:=fun k=>by have:=UInt8.lt_iff_toNat_lt.1 k;omega
      simp only [h1,decide_false,Bool.false_or,beq_self_eq_true,Bool.true_and]
      rw [← ih]
      congr 1
      rw [Bool.eq_iff_iff];simp
    have h1:¬ a < b:=fun k=>by have:=UInt8.lt_iff_toNat_lt.1 k;omega
    have h2:b < a:=UInt8.lt_iff_toNat_lt.2 h
    have h3:¬ a = b:=fun e=>by subst e;omega
    simp [h1,h2,h3]
section
variable {t':TypeId} {b c:ByteArray} (w:World)
theorem x_streq (hT:Sl nz l a) (hop:o.op = .binOp .eql t x y t') (hx:opnd l x = some (.string b)) (hy:opnd l y = some (.string c)):(execOp a.eval o).run P w = .ok (.value (.bool (decide (b.data.toList = c.data.toList)))) w:=by
  simp [execOp,hop,hT.eval hx,hT.eval hy,eqGuard,binOp,Op.stringOp,ByteArray.toList_eq]
  rw [Bool.eq_iff_iff];simp
theorem x_strne (hT:Sl nz l a) (hop:o.op = .binOp .neq t x y t') (hx:opnd l x = some (.string b)) (hy:opnd l y = some (.string c)):(execOp a.eval o).run P w = .ok (.value (.bool (!decide (b.data.toList = c.data.toList)))) w:=by
  simp [execOp,hop,hT.eval hx,hT.eval hy,eqGuard,binOp,Op.stringOp,ByteArray.toList_eq]
  rw [Bool.eq_iff_iff];simp
theorem x_strlt (hT:Sl nz l a) (hop:o.op = .binOp .lss t x y t') (hx:opnd l x = some (.string b)) (hy:opnd l y = some (.string c)):(execOp a.eval o).run P w = .ok (.value (.bool (Op.bytesLess b.data.toList c.data.toList))) w:=by
  simp [execOp,hop,hT.eval hx,hT.eval hy,eqGuard,binOp,Op.stringOp,ByteArray.toList_eq]
theorem x_strle (hT:Sl nz l a) (hop:o.op = .binOp .leq t x y t') (hx:opnd l x = some (.string b)) (hy:opnd l y = some (.string c)):(execOp a.eval o).run P w = .ok (.value (.bool (!Op.bytesLess c.data.toList b.data.toList))) w:=by
  have h:=slt_tri b.data.toList c.data.toList
  simp only [execOp,hop,hT.eval hx,hT.eval hy,eqGuard,binOp,Op.stringOp,ByteArray.toList_eq,h]
  simp
theorem x_strge (hT:Sl nz l a) (hop:o.op = .binOp .geq t x y t') (hx:opnd l x = some (.string b)) (hy:opnd l y = some (.string c)):(execOp a.eval o).run P w = .ok (.value (.bool (!Op.bytesLess b.data.toList c.data.toList))) w:=by
  simp [execOp,hop,hT.eval hx,hT.eval hy,eqGuard,binOp,Op.stringOp,ByteArray.toList_eq]
theorem x_strcat (hT:Sl nz l a) (hop:o.op = .binOp .add t x y t') (hx:opnd l x = some (.string b)) (hy:opnd l y = some (.string c)) (hs:b.size + c.size≤9223372036854775807):(execOp a.eval o).run P w = .ok (.value (.string (b++c))) w:=by
  have hm:¬ IntKind.i64.max < ((b.size + c.size:Nat):Int):=by simp [IntKind.max,IntKind.signed,IntKind.bits];omega
  simp only [execOp,hop,hT.eval hx,hT.eval hy,eqGuard,binOp,Op.stringOp]
  simp at hm ⊢
  omega
end
/-! lengths, least and most -/
theorem x_len_slice {ts:Array TypeId} {e:TypeId} {ad:Option Addr} {m c:Nat} (hT:Sl nz l a) (hop:o.op = .call { callee:=.builtin .len,args:=#[x],argTypes:=ts }) (ht:ts = #[t]) (hu:P.underlying t = some (.slice e))
    (hx:opnd l x = some (.slice ad m c)) (w:World):(execOp a.eval o).run P w = .ok (.value (.int .i64 m)) w:=by
  subst ht
  simp [execOp,hop,resolve,invoke,builtin,Builtin.len_,run_underlying hu,hT.eval hx,goInt]
theorem x_len_string {ts:Array TypeId} {b:ByteArray} (hT:Sl nz l a) (hop:o.op = .call { callee:=.builtin .len,args:=#[x],argTypes:=ts }) (ht:ts = #[t]) (hu:P.underlying t = some .string)
    (hx:opnd l x = some (.string b)) (w:World):(execOp a.eval o).run P w = .ok (.value (.int .i64 b.size)) w:=by
  subst ht
  simp [execOp,hop,resolve,invoke,builtin,Builtin.len_,run_underlying hu,hT.eval hx,goInt]
theorem x_max {ts:Array TypeId} {k:IntKind} {p q:Int} (hT:Sl nz l a) (hop:o.op = .call { callee:=.builtin .max,args:=#[x,y],argTypes:=ts })
    (hx:opnd l x = some (.int k p)) (hy:opnd l y = some (.int k q)) (w:World):(execOp a.eval o).run P w = .ok (.value (.int k (max p q))) w:=by
  have hm:(if p < q then q else p) = max p q:=by simp only [Int.max_def];split <;> split <;> omega
  simp [execOp,hop,resolve,invoke,builtin,Builtin.max_,Builtin.max2,hT.eval hx,hT.eval hy,hm]
/-! parts of what is there -/
theorem x_extract {i:Nat} {vs:Array Value} (hT:Sl nz l a) (hop:o.op = .extract x i) (hx:opnd l x = some (.tuple vs)) (hv:vs[i]? = some v) (w:World):(execOp a.eval o).run P w = .ok (.value v) w:=by
  simp [execOp,hop,hT.eval hx,Instr.extract,hv]
theorem run_part1 {cs:Array Value} {off:Nat} (hf:Flat P t) (hv:cs[off]? = some v) (w:World):(part t cs off).run P w = .ok v w:=by
  simp [part,run_isAgg_flat hf,hv]
end
end Go.Sx
