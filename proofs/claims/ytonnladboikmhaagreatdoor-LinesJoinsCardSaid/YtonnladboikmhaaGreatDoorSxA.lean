/- A layer over the kit's walk: worlds that are letters, blocks known whole, frames of slots known as lists, and regions walked in one order of the prover's choice. Generic over the program. -/
import Derived.WalkKit
import Derived.Orders
import Derived.KernelRfl
namespace Go.Sx
theorem bq:(∀ (p:Prop) [Decidable p],(decide p = true) = p)∧(∀ (p:Prop) [Decidable p],(decide p = false) = ¬ p)∧(∀ b:Bool,((!b) = true) = (b = false))∧(∀ b:Bool,((!b) = false) = (b = true)) ∧
    (∀ b:Bool,(¬ b = true) = (b = false))∧(∀ b:Bool,(¬ b = false) = (b = true))∧(∀ a b:Bool,((a && b) = true) = (a = true∧b = true))∧(∀ a b:Bool,((a || b) = false) = (a = false∧b = false)) ∧
    (∀ (α:Type) [BEq α] [LawfulBEq α] (a b:α),((a == b) = true) = (a = b))∧(∀ (α:Type) [BEq α] [LawfulBEq α] (a b:α),((a != b) = true) = (a ≠ b))∧(∀ a b:Int,(¬ a < b) = (b≤a))∧(∀ a b:Int,(¬ a≤b) = (b < a))∧(∀ (α:Type) (a b:α),(a ≠ b) = ¬ (a = b)):=by
  refine ⟨fun p _=>by simp,fun p _=>by simp,by simp,by simp,by simp,by simp,by simp,by simp,fun α _ _ a b=>by simp,fun α _ _ a b=>by simp,fun a b=>by simp,fun a b=>by simp,fun α a b=>rfl⟩
/-! ### Draws -/
theorem ask_drawn {α:Type} (a:Ask α):∀ w:World,w.drawn≤(w.ask a).2.drawn:=by
  induction a with
  | done a=>intro w;exact Nat.le_refl _
  | ask what range k ih=>
    intro w
    unfold World.ask
    dsimp only
    split
    · exact ih _ w
    exact Nat.le_trans (Nat.le_succ _) (ih _ { w with drawn:=w.drawn + 1 })
theorem sys_drawn (w:World) (c:Sys):w.drawn≤(w.sys c).2.drawn:=by
  have h:=ask_drawn (Kernel.perform c w.os) w
  unfold World.sys
  split
  · exact Nat.le_refl _
  rename_i heq
  rw [heq] at h
  exact h
theorem viewStore_drawn {p:Program} {w:World} {at_:Addr} {u:TypeId} {k:Addr} {v:Value} {b:Bool} {r:World × List Addr} (h:w.viewStore p at_ u k v b = .ok r):r.1.drawn = w.drawn:=by
  unfold World.viewStore at h
  simp only [bind,Except.bind,pure,Except.pure] at h
  repeat' split at h
  all_goals first | (cases h;done) | (cases h;rfl) | skip
theorem farStore_drawn {p:Program} {w:World} {a:Addr} {v:Value} {b:Bool} {r:World × List Addr} (h:w.farStore p a v b = .ok r):r.1.drawn = w.drawn:=by
  unfold World.farStore at h
  split at h
  · split at h
    · rename_i h2;cases h;exact viewStore_drawn h2
    cases h
  cases h
theorem freeze_drawn (w:World) (a:Addr) (n:Nat):(w.freeze a n).drawn = w.drawn:=by
  unfold World.freeze;split <;> rfl
theorem run_drawn {α:Type} (p:Program) (m:Sem α):∀ (w w':World) (v:α),m.run p w = .ok v w'→w.drawn≤w'.drawn:=by
  induction m with
  | pure a=>intro w w' v h;unfold Sem.run at h;cases h;exact Nat.le_refl _
  | load m a k ih=>
    intro w w' v h
    unfold Sem.run at h
    split at h
    · exact ih _ _ _ _ h
    split at h
    · exact ih _ _ _ _ h
    cases h
  | store m a x k ih=>
    intro w w' v h
    cases x <;> simp only [Sem.run] at h
    all_goals first | (cases h;done) | skip
    all_goals (split at h)
    all_goals first | (split at h) | skip
    all_goals first | (cases h;done) | (have h2:=ih _ _ _ h;exact h2) | skip
    all_goals (rename_i hf;have:=farStore_drawn hf;have h2:=ih _ _ _ h;dsimp only at this;omega)
  | new o k ih=>intro w w' v h;unfold Sem.run at h;have h2:=ih _ _ _ _ h;exact h2
  | shape r k ih=>intro w w' v h;unfold Sem.run at h;exact ih _ _ _ _ h
  | freeze a n k ih=>
    intro w w' v h
    unfold Sem.run at h
    have:=ih _ _ _ h
    rwa [freeze_drawn] at this
  | frozen a k ih=>intro w w' v h;unfold Sem.run at h;exact ih _ _ _ _ h
  | getObj r k ih=>
    intro w w' v h
    unfold Sem.run at h
    split at h
    · cases h
    · exact ih _ _ _ _ h
    cases h
  | setObj r o k ih=>
    intro w w' v h
    unfold Sem.run at h
    split at h
    · cases h
    · have h2:=ih _ _ _ h;exact h2
    cases h
  | choose q k ih=>
    intro w w' v h
    unfold Sem.run at h
    split at h
    · exact ih _ _ _ _ h
    have:=ih _ _ _ _ h
    exact Nat.le_trans (Nat.le_succ _) this
  | sys c k ih=>
    intro w w' v h
    unfold Sem.run at h
    exact Nat.le_trans (sys_drawn w c) (ih _ _ _ _ h)
  | program k ih=>intro w w' v h;unfold Sem.run at h;exact ih _ _ _ _ h
  | mark m k ih=>intro w w' v h;unfold Sem.run at h;exact ih _ _ _ h
  | halt x=>intro w w' v h;unfold Sem.run at h;cases h
/-! ### Worlds -/
-- [strict
def dr (w:World):Nat:=w.drawn
theorem dr_of {w w':World} (h:w.drawn≤w'.drawn):dr w≤dr w':=h
-- strict]
/-[loose
def dr (w:World):Nat:=0
theorem dr_of {w w':World} (h:w.drawn≤w'.drawn):dr w≤dr w':=Nat.le_refl _
loose]-/
structure Ext (S:Nat→Prop) (w w':World):Prop where
  os:w'.os = w.os
  tape:w'.tape = w.tape
  output:w'.output = w.output
  size:w.heap.size≤w'.heap.size
  block:∀ k,k < w.heap.size→¬ S k→w'.heap[k]? = w.heap[k]?
  drawn:dr w≤dr w'
def No:Nat→Prop:=fun _=>False
def One (b:Nat):Nat→Prop:=fun k=>k = b
theorem not_No (k:Nat):¬ No k:=fun h=>h
section
variable {S T:Nat→Prop} {w w' a b c:World}
theorem Ext.refl (S:Nat→Prop) (w:World):Ext S w w:=⟨rfl,rfl,rfl,Nat.le_refl _,fun _ _ _=>rfl,Nat.le_refl _⟩
theorem Ext.mono (h:Ext S w w') (hs:∀ k,k < w.heap.size→S k→T k):Ext T w w':=
  ⟨h.os,h.tape,h.output,h.size,fun k hk ht=>h.block k hk fun s=>ht (hs k hk s),h.drawn⟩
theorem Ext.trans (h:Ext S a b) (k:Ext T b c) (ht:∀ i,i < a.heap.size→T i→S i):Ext S a c:=
  ⟨k.os.trans h.os,k.tape.trans h.tape,k.output.trans h.output,Nat.le_trans h.size k.size,fun i hi hs=>
    (k.block i (Nat.lt_of_lt_of_le hi h.size) fun t=>hs (ht i hi t)).trans (h.block i hi hs),Nat.le_trans h.drawn k.drawn⟩
theorem Ext.step (h:Ext S a b) (k:Ext No b c):Ext S a c:=h.trans k fun _ _ h=>h.elim
theorem Ext.ext (h:Ext S a b) (k:Ext T b c) (ht:∀ i,i < a.heap.size→T i→S i):Ext S a c:=h.trans k ht
theorem Ext.ext_no (h:Ext S a b) (k:Ext No b c):Ext S a c:=h.step k
theorem Ext.same (h:Ext S a b) (k:Ext S b c):Ext S a c:=h.trans k fun _ _ h=>h
theorem Ext.drew (w:World):Ext S w w.drew:=⟨rfl,rfl,rfl,Nat.le_refl _,fun _ _ _=>rfl,dr_of (Nat.le_succ _)⟩
-- [strict
theorem Ext.exact (h:Ext No w w'):∃ (n:Nat) (os:Array Obj),w' = { w with drawn:=w.drawn + n,heap:=w.heap++os }:=by
  refine ⟨w'.drawn - w.drawn,w'.heap.extract w.heap.size w'.heap.size,?_⟩
  obtain ⟨hp,tp,dn,os,out⟩:=w'
  have h1:=h.os;have h2:=h.tape;have h3:=h.output;have h4:w.drawn≤dn:=h.drawn;have h5:=h.size
  dsimp only at h1 h2 h3 h4 h5 ⊢
  subst h1 h2 h3
  congr 1
  · apply Array.ext_getElem?
    intro i
    rw [Array.getElem?_append]
    split
    · rename_i hi;exact h.block i hi (not_No i)
    rename_i hi
    rw [Array.getElem?_extract]
    by_cases hl:i < hp.size
    · rw [if_pos (by omega)];congr 1;omega
    rw [Array.getElem?_eq_none (by omega)]
    split
    · rw [Array.getElem?_eq_none (by omega)]
    rfl
  omega
-- strict]
/-[loose
theorem Ext.of_below (h:Go.RowKit.Below w.heap.size w w'):Ext No w w':=⟨h.os,h.tape,h.output,h.size,fun k hk _=>h.block k hk,Nat.le_refl _⟩
loose]-/
theorem Ext.below (h:Ext No w w'):Go.RowKit.Below w.heap.size w w':=⟨h.os,h.tape,h.output,h.size,fun k hk=>h.block k hk (not_No k)⟩
theorem Ext.of_grown {row:Option Nat} (h:w.grownBy w' row) (hd:w.drawn≤w'.drawn):Ext (fun k=>some k = row) w w':=⟨h.os,h.tape,h.output,h.size,h.block,dr_of hd⟩
theorem Ext.alloc (w:World) (o:Obj):Ext S w (w.alloc o):=⟨rfl,rfl,rfl,by simp,fun k hk _=>Go.RowKit.Below.heap_alloc w o k hk,Nat.le_refl _⟩
end
/-! ### Blocks and runs of cells -/
def Blk (w:World) (b:Nat) (l:List Value) (e:TypeId):Prop:=w.heap[b]? = some (.cells l.toArray e (0,0))
def Cs (w:World) (b o:Nat) (vs:List Value):Prop:=∀ j v,vs[j]? = some v→w.cell? ⟨b,o + j,none⟩ = some v
section
variable {S:Nat→Prop} {w w':World} {b o:Nat} {l vs:List Value} {e:TypeId} {v:Value}
theorem Blk.lt (h:Blk w b l e):b < w.heap.size:=(Array.getElem?_eq_some_iff.1 h).1
theorem Blk.ext (h:Blk w b l e) (x:Ext S w w') (hb:¬ S b):Blk w' b l e:=(x.block b h.lt hb).trans h
theorem Blk.cell (h:Blk w b l e) {j:Nat} (hj:l[j]? = some v):w.cell? ⟨b,j,none⟩ = some v:=by
  unfold Blk at h
  simp [World.cell?,h,hj]
theorem Blk.frozen (h:Blk w b l e) (j:Nat):w.frozen? ⟨b,j,none⟩ = false:=by
  unfold Blk at h
  simp [World.frozen?,h]
theorem Blk.cs (h:Blk w b l e) (o:Nat):Cs w b o (l.drop o):=fun j v hj=>h.cell (by simpa using hj)
theorem Blk.cs_of (h:Blk w b l e) (hv:∀ j v,vs[j]? = some v→l[o + j]? = some v):Cs w b o vs:=fun j v hj=>h.cell (hv j v hj)
theorem Blk.run {xs ys:List Value} (h:Blk w b (xs++(vs++ys)) e) (ho:xs.length = o):Cs w b o vs:=h.cs_of fun j v hj=>by
  subst ho
  rw [List.getElem?_append_right (by omega),show xs.length + j - xs.length = j from by omega,List.getElem?_append_left (List.getElem?_eq_some_iff.1 hj).1]
  exact hj
theorem Blk.inj {l':List Value} {e':TypeId} (h:Blk w b l e) (k:Blk w b l' e'):l = l':=by
  unfold Blk at *
  rw [h] at k
  simpa using congrArg (fun o=>match o with | some (Obj.cells c _ _)=>c.toList | _=>[]) k
theorem Cs.nil (w:World) (b o:Nat):Cs w b o []:=fun j v h=>by simp at h
theorem Cs.ext (h:Cs w b o vs) (x:Ext S w w') (hb:¬ S b):Cs w' b o vs:=fun j v hj=>by
  have hc:=h j v hj
  have hlt:=World.block_lt_of_cell? w _ hc
  rw [World.cell?_of_block (w:=w) (a:=⟨b,o + j,none⟩) (x.block b hlt hb)]
  exact hc
theorem Cs.at (h:Cs w b o vs) {j:Nat} (hj:vs[j]? = some v):w.cell? ⟨b,o + j,none⟩ = some v:=h j v hj
theorem Cs.sub {us:List Value} {i:Nat} (h:Cs w b o vs) (hs:∀ j v,us[j]? = some v→vs[i + j]? = some v):Cs w b (o + i) us:=fun j v hj=>by
  have:=h (i + j) v (hs j v hj)
  rwa [← Nat.add_assoc] at this
theorem Cs.drop (h:Cs w b o vs) (i:Nat):Cs w b (o + i) (vs.drop i):=h.sub fun j v hj=>by simpa using hj
theorem Cs.take (h:Cs w b o vs) (i:Nat):Cs w b o (vs.take i):=fun j v hj=>h j v (by
  rw [List.getElem?_take] at hj
  split at hj
  · exact hj
  cases hj)
end
/-! ### Slots -/
def look:List (Nat × Value)→Nat→Option Value
  | [],_=>none
  | (k,v) :: l,t=>bif Nat.beq k t then some v else look l t
def opnd (l:List (Nat × Value)):Operand→Option Value
  | .tmp t=>look l t
  | .const v=>some v
  | .global g=>some (.pointer (some ⟨g,0,none⟩))
  | .func f=>some (.func (.func f) #[] #[])
def opnds (l:List (Nat × Value)):List Operand→Option (List Value)
  | []=>some []
  | x :: r=>match opnd l x,opnds l r with
    | some v,some vs=>some (v :: vs)
    | _,_=>none
structure Sz where
  n:Nat
  D:List Deferred
instance (k:Nat):OfNat Sz k:=⟨⟨k,[]⟩⟩
structure Sl (nz:Sz) (l:List (Nat × Value)) (a:Act):Prop where
  defers:a.defers = nz.D
  size:a.tmps.size = nz.n
  get:∀ t v,look l t = some v→a.tmps[t]? = some v
section
variable {nz:Sz} {n:Nat} {l:List (Nat × Value)} {a:Act} {v:Value}
theorem Sl.eval (h:Sl nz l a) {x:Operand} (hx:opnd l x = some v):a.eval x = v:=by
  cases x with
  | tmp t=>
    have:=h.get t v hx
    simp [Act.eval,Array.getD_eq_getD_getElem?,this]
  | const c=>simpa [opnd,Act.eval] using hx
  | global g=>simpa [opnd,Act.eval] using hx
  | func f=>simpa [opnd,Act.eval] using hx
theorem Sl.evals (h:Sl nz l a):∀ {xs:List Operand} {vs:List Value},opnds l xs = some vs→xs.map a.eval = vs
  | [],vs,hx=>by simpa [opnds] using hx
  | x :: r,vs,hx=>by
    simp only [opnds] at hx
    split at hx
    · rename_i u us h1 h2
      simp only [List.map_cons,h.eval h1,h.evals h2]
      simpa using hx
    cases hx
theorem Sl.put (h:Sl nz l a) {d:Nat} (hd:d < nz.n) (v:Value):Sl nz ((d,v) :: l) (a.put (some d) v):=by
  refine ⟨h.defers,by simpa [Act.put] using h.size,fun t u ht=>?_⟩
  unfold look at ht
  cases hb:Nat.beq d t with
  | true=>
    have:d = t:=Nat.eq_of_beq_eq_true hb
    subst this
    simp only [hb,cond_true,Option.some.injEq] at ht
    subst ht
    have hs:=h.size
    simp [Act.put,Array.getElem?_setIfInBounds]
    omega
  | false=>
    simp only [hb,cond_false] at ht
    have hne:d ≠ t:=fun e=>by subst e;simp at hb
    simp only [Act.put,Array.getElem?_setIfInBounds_ne hne]
    exact h.get t u ht
def picks (l:List (Nat × Value)):List Nat→Option (List (Nat × Value))
  | []=>some []
  | t :: r=>match look l t,picks l r with
    | some v,some m=>some ((t,v) :: m)
    | _,_=>none
theorem look_picks:∀ {ks:List Nat} {m:List (Nat × Value)},picks l ks = some m→∀ t v,look m t = some v→look l t = some v
  | [],m,h,t,v,ht=>by simp [picks] at h;subst h;simp [look] at ht
  | k :: r,m,h,t,v,ht=>by
    simp only [picks] at h
    split at h
    · rename_i u m' h1 h2
      simp only [Option.some.injEq] at h
      subst h
      unfold look at ht
      cases hb:Nat.beq k t with
      | true=>
        have:k = t:=Nat.eq_of_beq_eq_true hb
        subst this
        simp only [hb,cond_true,Option.some.injEq] at ht
        subst ht
        exact h1
      | false=>
        simp only [hb,cond_false] at ht
        exact look_picks h2 t v ht
    cases h
theorem Sl.keep (h:Sl nz l a) (ks:List Nat) {m:List (Nat × Value)} (hm:picks l ks = some m):Sl nz m a:=
  ⟨h.defers,h.size,fun t v ht=>h.get t v (look_picks hm t v ht)⟩
def enum:List Value→Nat→List (Nat × Value)
  | [],_=>[]
  | v :: vs,i=>(i,v) :: enum vs (i + 1)
theorem Sl.enter {vs:List Value} {k:Nat} (h:vs.length≤k):Sl ⟨k,[]⟩ (enum vs 0) { tmps:=vs.toArray++Array.replicate (k - vs.length) undef,defers:=[] }:=by
  refine ⟨rfl,by simp;omega,fun t v ht=>?_⟩
  have key:∀ (us:List Value) (i:Nat),look (enum us i) t = some v→us[t - i]? = some v∧i≤t:=by
    intro us
    induction us with
    | nil=>intro i h;simp [enum,look] at h
    | cons u us ih=>
      intro i h
      simp only [enum,look] at h
      cases hb:Nat.beq i t with
      | true=>
        have:i = t:=Nat.eq_of_beq_eq_true hb
        subst this
        simp only [hb,cond_true,Option.some.injEq] at h
        simp [h]
      | false=>
        simp only [hb,cond_false] at h
        have hne:i ≠ t:=fun e=>by subst e;simp at hb
        obtain ⟨h1,h2⟩:=ih (i + 1) h
        refine ⟨?_,by omega⟩
        rw [show t - i = (t - (i + 1)) + 1 from by omega,List.getElem?_cons_succ]
        exact h1
  have:=(key vs 0 ht).1
  simp only [Nat.sub_zero] at this
  rw [Array.getElem?_append_left (by simpa using (List.getElem?_eq_some_iff.1 this).1)]
  simpa using this
end
end Go.Sx
