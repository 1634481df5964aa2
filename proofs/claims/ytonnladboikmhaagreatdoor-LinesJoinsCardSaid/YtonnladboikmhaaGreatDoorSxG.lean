/- Laws over blocks whose cells are written out: what they hold is found by reckoning. -/
import Derived.Test.YtonnladboikmhaaGreatDoorSxF
namespace Go.Sx
def nth:List Value→Nat→Option Value
  | [],_=>none
  | v :: _,0=>some v
  | _ :: l,j + 1=>nth l j
theorem nth_eq:∀ (l:List Value) (j:Nat),nth l j = l[j]?
  | [],j=>by simp [nth]
  | v :: l,0=>by simp [nth]
  | v :: l,j + 1=>by simp [nth,nth_eq l j]
def seg (l:List Value):Nat→Nat→Option (List Value)
  | _,0=>some []
  | off,k + 1=>match nth l off,seg l (off + 1) k with
    | some v,some vs=>some (v :: vs)
    | _,_=>none
theorem seg_get {l:List Value}:∀ (k off:Nat) (vs:List Value),seg l off k = some vs→vs.length = k∧∀ j v,vs[j]? = some v→l[off + j]? = some v
  | 0,off,vs,h=>by simp [seg] at h;subst h;simp
  | k + 1,off,vs,h=>by
    simp only [seg] at h
    split at h
    · rename_i v us h1 h2
      simp only [Option.some.injEq] at h
      subst h
      obtain ⟨hl,hg⟩:=seg_get k (off + 1) us h2
      refine ⟨by simp [hl],fun j u hj=>?_⟩
      cases j with
      | zero=>rw [nth_eq] at h1;simp at hj;subst hj;simpa using h1
      | succ j=>have:=hg j u (by simpa using hj);rw [show off + (j + 1) = off + 1 + j from by omega];exact this
    · cases h
def put:List Value→Nat→Value→Option (List Value)
  | [],_,_=>none
  | _ :: l,0,v=>some (v :: l)
  | u :: l,j + 1,v=>match put l j v with
    | some m=>some (u :: m)
    | none=>none
theorem put_eq:∀ {l:List Value} {j:Nat} {v:Value} {m:List Value},put l j v = some m→m = l.set j v∧j < l.length
  | [],j,v,m,h=>by simp [put] at h
  | u :: l,0,v,m,h=>by simp [put] at h;subst h;simp
  | u :: l,j + 1,v,m,h=>by
    simp only [put] at h
    split at h
    · rename_i m' h'
      simp only [Option.some.injEq] at h
      subst h
      obtain ⟨h1,h2⟩:=put_eq h'
      subst h1
      simpa using h2
    cases h
def puts:List Value→Nat→List Value→Option (List Value)
  | l,_,[]=>some l
  | l,j,v :: vs=>match put l j v with
    | some m=>puts m (j + 1) vs
    | none=>none
theorem puts_eq:∀ {vs l:List Value} {j:Nat} {m:List Value},puts l j vs = some m→j + vs.length≤l.length∨vs = []→m = l.take j++vs++l.drop (j + vs.length)∨vs = []
  | [],l,j,m,h,_=>.inr rfl
  | v :: vs,l,j,m,h,hl=>by
    refine .inl ?_
    have hl:j + (v :: vs).length≤l.length:=hl.resolve_right (by simp)
    simp only [puts] at h
    split at h
    · rename_i m' h'
      obtain ⟨rfl,hj⟩:=put_eq h'
      simp only [List.length_cons] at hl
      rcases puts_eq h (.inl (by simp;omega)) with h3 | h3
      · subst h3
        rw [List.set_eq_take_append_cons_drop,if_pos hj]
        have e1:(l.take j++v :: l.drop (j + 1)).take (j + 1) = l.take j++[v]:=by
          rw [List.take_append,List.take_of_length_le (by simp;omega)]
          simp [List.length_take,Nat.min_eq_left (by omega:j≤l.length)]
        have e2:(l.take j++v :: l.drop (j + 1)).drop (j + 1 + vs.length) = l.drop (j + (v :: vs).length):=by
          rw [List.drop_append,List.drop_eq_nil_of_le (by simp;omega)]
          simp [List.length_take,Nat.min_eq_left (by omega:j≤l.length),show j + 1 + vs.length - j = vs.length + 1 from by omega,List.drop_drop]
          congr 1;omega
        rw [e1,e2]
        simp
      subst h3
      simp only [puts,Option.some.injEq] at h
      subst h
      rw [List.set_eq_take_append_cons_drop,if_pos hj]
      simp
    cases h
theorem puts_len:∀ {vs l:List Value} {j:Nat} {m:List Value},puts l j vs = some m→j + vs.length≤l.length∨vs = []
  | [],l,j,m,h=>.inr rfl
  | v :: vs,l,j,m,h=>by
    simp only [puts] at h
    split at h
    · rename_i m' h'
      obtain ⟨rfl,hj⟩:=put_eq h'
      rcases puts_len h with h3 | h3
      · simp at h3 ⊢;omega
      subst h3;simp;omega
    cases h
def cellsOf:Value→Option (List Value)
  | .agg ⟨l⟩=>some l
  | .tuple _=>none
  | v=>some [v]
theorem cellsOf_eq {v:Value} {cs:List Value} (h:cellsOf v = some cs):v.cells = cs.toArray:=by
  cases v <;> simp [cellsOf] at h <;> subst h <;> simp [Value.cells]
section
variable {w w':World} {b off:Nat} {l vs:List Value} {e:TypeId} {v:Value}
theorem Blk.ext_no (h:Blk w b l e) (x:Ext No w w'):Blk w' b l e:=h.ext x (not_No _)
theorem Cs.ext_no (h:Cs w b off vs) (x:Ext No w w'):Cs w' b off vs:=h.ext x (not_No _)
theorem Blk.nth (h:Blk w b l e) {j:Nat} (hj:nth l j = some v):w.cell? ⟨b,j,none⟩ = some v:=h.cell (by rw [← nth_eq];exact hj)
theorem Blk.seg (h:Blk w b l e) {k:Nat} (hs:seg l off k = some vs):Cs w b off vs:=h.cs_of (seg_get k off vs hs).2
theorem Cs.nth (h:Cs w b off vs) {j:Nat} (hj:nth vs j = some v):w.cell? ⟨b,off + j,none⟩ = some v:=h.at (by rw [← nth_eq];exact hj)
theorem Cs.seg {us:List Value} {i k:Nat} (h:Cs w b off vs) (hs:seg vs i k = some us):Cs w b (off + i) us:=h.sub (seg_get k i us hs).2
end
section
variable {nz:Sz} {P:Program} {n:Nat} {l:List (Nat × Value)} {a:Act} {w:World} {o:Oper} {t e:TypeId} {x y:Operand} {v:Value} {cs cur cur':List Value}
theorem y_box (hT:Sl nz l a) (hop:o.op = .box e x) (hx:opnd l x = some v) (hc:cellsOf v = some cs) (w:World) :
    ∃ r w',(execOp a.eval o).run P w = .ok (.value r) w'∧∃ b,r = .pointer (some ⟨b,0,none⟩)∧New w b w' cs e:=by
  have:=x_box (P:=P) hT hop hx w
  rwa [cellsOf_eq hc] at this
theorem y_alloc {z:Value} {sz by_:Nat} (hT:Sl nz l a) (hop:o.op = .alloc e) (hti:TI P e z sz by_) (hc:cellsOf z = some cs) (w:World) :
    ∃ r w',(execOp a.eval o).run P w = .ok (.value r) w'∧∃ b,r = .pointer (some ⟨b,0,none⟩)∧New w b w' cs e:=by
  have:=x_alloc (P:=P) hT hop hti w
  rwa [cellsOf_eq hc] at this
theorem y_store1 {z:Value} {by_ b off:Nat} {t':TypeId} (hT:Sl nz l a) (hop:o.op = .store t x y) (hti:TI P t z 1 by_) (hx:opnd l x = some (.pointer (some ⟨b,off,none⟩))) (hy:opnd l y = some v)
    (hv:v.oneCell' = true) (h:Blk w b cur t') (hp:put cur off v = some cur') :
    ∃ w',(execOp a.eval o).run P w = .ok .skip w'∧Blk w' b cur' t'∧Ext (One b) w w'∧w'.heap.size = w.heap.size:=by
  obtain ⟨rfl,hlt⟩:=put_eq hp
  exact x_store1 hT hop hti hx hy hv h hlt
theorem y_storeS {z:Value} {by_ b off:Nat} {t':TypeId} (hT:Sl nz l a) (hop:o.op = .store t x y) (hti:TI P t z cs.length by_) (hx:opnd l x = some (.pointer (some ⟨b,off,none⟩))) (hy:opnd l y = some v)
    (hc:cellsOf v = some cs) (h1:cs.all Value.oneCell' = true) (h0:cs.isEmpty = false) (h:Blk w b cur t') (hp:puts cur off cs = some cur') :
    ∃ w',(execOp a.eval o).run P w = .ok .skip w'∧Blk w' b cur' t'∧Ext (One b) w w'∧w'.heap.size = w.heap.size:=by
  have hne:cs ≠ []:=fun e=>by subst e;simp at h0
  have hl:=(puts_len hp).resolve_right hne
  rw [(puts_eq hp (.inl hl)).resolve_right hne]
  exact x_store hT hop hti hx hy (cellsOf_eq hc) h hl (by simpa using h1)
theorem run_res1 {b off:Nat} (hf:Flat P t) (hc:w.cell? ⟨b,off,none⟩ = some v):(loadVar t ⟨b,off,none⟩).run P w = .ok v w:=run_loadVar1 hf hc
theorem wp_draws {ops:Array Oper} {Q:Exit→Act→World→Prop} {id:Nat} (H:World→World→Prop) (s:List (Nat × How)) (hm:P.follows .mixedOrders = true)
    (hs:(Region.noSelect ops && Nat.ble s.length ops.size && good .any ops (mark s) s (Array.replicate ops.size false)) = true)
    (h:∀ w',Ext No w w'→w'.heap.size = w.heap.size→Ser P ops (Calm Q) (H w') s a w'):(Code.region id ops true).wp P Q a w:=
  wp_drawn (H w.drew) s hm hs (h _ (Ext.drew w) rfl)
theorem y_loadS {b off sz by_:Nat} {vs:List Value} {fs:Array Field} {z:Value} (hT:Sl nz l a) (hop:o.op = .load t x) (hu:P.underlying t = some (.struct fs)) (hti:TI P t z sz by_)
    (hx:opnd l x = some (.pointer (some ⟨b,off,none⟩))) (hc:Cs w b off vs) (hl:vs.length = sz):(execOp a.eval o).run P w = .ok (.value (.agg vs.toArray)) w:=by
  subst hl
  exact x_loadS hT hop hu hti hx hc
theorem run_resS {b off sz by_:Nat} {vs:List Value} {fs:Array Field} {z:Value} (hu:P.underlying t = some (.struct fs)) (hti:TI P t z sz by_) (hc:Cs w b off vs) (hl:vs.length = sz):(loadVar t ⟨b,off,none⟩).run P w = .ok (.agg vs.toArray) w:=by
  subst hl
  exact run_loadVarS hu hti hc
theorem fill1 {cs:List Value} {z:Array Value} (hz:z.size = cs.length):∀ (k:Nat) (us:List Value),us.length = cs.length→k≤cs.length →
    (((cs.drop k).zipIdx k).foldl (fun (r:Array Value) (p:Value × Nat)=>r.setIfInBounds (0 + p.2) p.1) (cs.take k++us.drop k).toArray) = cs.toArray:=by
  have _:=hz
  intro k us hu hk
  induction hm:cs.length - k generalizing k us with
  | zero=>
    have:k = cs.length:=by omega
    subst this
    simp [List.drop_of_length_le (by omega:us.length≤cs.length)]
  | succ m ih=>
    have hlt:k < cs.length:=by omega
    rw [List.drop_eq_getElem_cons hlt]
    simp only [List.zipIdx_cons,List.foldl_cons,Nat.zero_add]
    have e1:((cs.take k++us.drop k).toArray.setIfInBounds k cs[k]) = (cs.take (k + 1)++us.drop (k + 1)).toArray:=by
      rw [List.setIfInBounds_toArray]
      congr 1
      rw [List.set_append_right _ _ (by simp;omega),List.length_take,Nat.min_eq_left (by omega),Nat.sub_self,List.drop_eq_getElem_cons (by omega:k < us.length),List.set_cons_zero,List.take_succ_eq_append_getElem hlt,List.append_assoc]
      rfl
    rw [e1]
    have:=ih (k + 1) us hu (by omega) (by omega)
    simpa using this
theorem y_slice1 {z:Value} {sz by_:Nat} (hT:Sl nz l a) (hop:o.op = .buildSlice t 1 #[(0,x)]) (hu:P.underlying t = some (.slice e)) (hti:TI P e z sz by_) (hsz:Nat.ble sz 16777216 = true) (hpos:Nat.blt 0 sz = true) (hz:z.cells.size = sz)
    (hx:opnd l x = some v) (hc:cellsOf v = some cs) (hl:cs.length = sz) (w:World) :
    ∃ r w',(execOp a.eval o).run P w = .ok (.value r) w'∧∃ b,r = .slice (some ⟨b,0,none⟩) 1 1∧New w b w' cs e:=by
  have hsz:=Nat.le_of_ble_eq_true hsz
  refine x_buildSlice (P:=P) (vs:=[(0,v)]) hT hop hu hti (by omega) (by simp [hT.eval hx]) ?_ w
  rw [Nat.one_mul]
  have hv:=cellsOf_eq hc
  have h0:¬ sz = 0:=by have:=Nat.le_of_ble_eq_true hpos;omega
  have hs:((Array.range sz).map (fun i=>z.cells[i % z.cells.size]!)).size = cs.length:=by simp;omega
  have:=fill1 (cs:=cs) (z:=(Array.range sz).map (fun i=>z.cells[i % z.cells.size]!)) hs 0 ((Array.range sz).map (fun i=>z.cells[i % z.cells.size]!)).toList (by simpa using hs) (Nat.zero_le _)
  simp only [List.take_zero,List.nil_append,List.drop_zero,Array.toArray_toList,Nat.zero_add] at this
  simp only [Instr.fill,hv,h0,if_false]
  rw [if_neg (by simp [hl])]
  simpa using this
end
end Go.Sx
