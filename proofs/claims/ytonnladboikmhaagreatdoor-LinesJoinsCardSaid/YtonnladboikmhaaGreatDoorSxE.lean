/- Laws for the operations that make memory or write it, and for slices. -/
import Derived.Test.YtonnladboikmhaaGreatDoorSxD
import Derived.Lib.AppendZeros
namespace Go.Sx
structure New (w:World) (b:Nat) (w':World) (cs:List Value) (e:TypeId):Prop where
  at_:b = w.heap.size
  ext:Ext No w w'
  blk:Blk w' b cs e
  size:w'.heap.size = b + 1
theorem New.alloc (w:World) (cs:List Value) (e:TypeId):New w w.heap.size (w.alloc (.cells cs.toArray e)) cs e:=
  ⟨rfl,Ext.alloc w _,heap_alloc_new w _,by simp⟩
def ab:Option Addr→Nat
  | some p=>p.block
  | none=>0
def ao:Option Addr→Nat
  | some p=>p.off
  | none=>0
structure Sv (w:World) (ad:Option Addr) (m sz:Nat) (vs:List Value):Prop where
  len:vs.length = m * sz
  pos:0 < m→ad = some ⟨ab ad,ao ad,none⟩
  cs:Cs w (ab ad) (ao ad) vs
structure Row (w:World) (e:TypeId) (sz:Nat) (ad:Option Addr) (n c:Nat) (xs:List Value):Prop where
  len:xs.length = n * sz
  own:(ad = none∧n = 0∧c = 0)∨∃ junk,ad = some ⟨ab ad,0,none⟩∧Blk w (ab ad) (xs++junk) e∧(xs++junk).length = c * sz∧n≤c∧c≤maxLen
def Own (ad:Option Addr):Nat→Prop:=fun k=>ad.map Addr.block = some k
section
variable {S:Nat→Prop} {w w':World} {ad:Option Addr} {m sz n c:Nat} {vs xs:List Value} {e:TypeId}
theorem Own.one {b o:Nat} {sp:Option Nat}:Own (some ⟨b,o,sp⟩) = One b:=by
  funext k;simp [Own,One,eq_comm]
theorem Own.none:Own Option.none = No:=by
  funext k;simp [Own,No]
theorem Sv.ext (h:Sv w ad m sz vs) (x:Ext S w w') (hb:0 < m→¬ S (ab ad)):Sv w' ad m sz vs:=
  ⟨h.len,h.pos,by
    rcases Nat.eq_zero_or_pos m with h0 | h0
    · have:vs = []:=List.eq_nil_of_length_eq_zero (by rw [h.len,h0];simp)
      subst this
      exact Cs.nil _ _ _
    exact h.cs.ext x (hb h0)⟩
theorem Sv.ext_no (h:Sv w ad m sz vs) (x:Ext No w w'):Sv w' ad m sz vs:=h.ext x fun _=>not_No _
theorem Sv.nil (w:World) (sz:Nat):Sv w none 0 sz []:=⟨by simp,fun h=>by omega,Cs.nil _ _ _⟩
theorem Sv.empty (w:World) (ad:Option Addr) (sz:Nat):Sv w ad 0 sz []:=⟨by simp,fun h=>by omega,Cs.nil _ _ _⟩
theorem Row.sv (h:Row w e sz ad n c xs):Sv w ad n sz xs:=by
  rcases h.own with ⟨rfl,rfl,rfl⟩ | ⟨junk,ha,hb,-,-,-⟩
  · have:xs = []:=List.eq_nil_of_length_eq_zero (by simpa using h.len)
    subst this
    exact Sv.nil _ _
  have hao:ao ad = 0:=by rw [ha];rfl
  refine ⟨h.len,fun _=>by rw [hao];exact ha,?_⟩
  rw [hao]
  exact hb.cs_of fun j v hj=>by
    rw [Nat.zero_add,List.getElem?_append_left (List.getElem?_eq_some_iff.1 hj).1]
    exact hj
theorem Row.ext (h:Row w e sz ad n c xs) (x:Ext S w w') (hb:∀ k,Own ad k→¬ S k):Row w' e sz ad n c xs:=by
  refine ⟨h.len,?_⟩
  rcases h.own with h0 | ⟨junk,ha,hB,r⟩
  · exact .inl h0
  exact .inr ⟨junk,ha,hB.ext x (hb _ (by rw [ha];rfl)),r⟩
theorem Row.ext_no (h:Row w e sz ad n c xs) (x:Ext No w w'):Row w' e sz ad n c xs:=h.ext x fun _ _=>not_No _
theorem Row.lt (h:Row w e sz ad n c xs):∀ k,Own ad k→k < w.heap.size:=fun k hk=>by
  rcases h.own with ⟨rfl,-,-⟩ | ⟨junk,ha,hB,-⟩
  · simp [Own] at hk
  rw [ha] at hk
  simp [Own] at hk
  subst hk
  rw [ha] at hB
  exact hB.lt
theorem Row.nil (w:World) (e:TypeId) (sz:Nat):Row w e sz none 0 0 []:=⟨by simp,.inl ⟨rfl,rfl,rfl⟩⟩
theorem Row.le (h:Row w e sz ad n c xs):n≤c∧c≤maxLen:=by
  rcases h.own with ⟨-,rfl,rfl⟩ | ⟨-,-,-,-,h1,h2⟩
  · exact ⟨Nat.le_refl _,Nat.zero_le _⟩
  exact ⟨h1,h2⟩
theorem Row.take (h:Row w e sz ad n c xs) {k:Nat} (hk:k≤n):Row w e sz ad k c (xs.take (k * sz)):=by
  have hle:k * sz≤n * sz:=Nat.mul_le_mul_right _ hk
  refine ⟨by rw [List.length_take,h.len];omega,?_⟩
  rcases h.own with ⟨h0,h1,h2⟩ | ⟨junk,ha,hB,hl,h1,h2⟩
  · exact .inl ⟨h0,by omega,h2⟩
  refine .inr ⟨xs.drop (k * sz)++junk,ha,?_,?_,by omega,h2⟩
  · rw [← List.append_assoc,List.take_append_drop];exact hB
  rw [← List.append_assoc,List.take_append_drop];exact hl
theorem Row.owns (h:Row w e sz ad n c xs):w.ownsRow 0 e sz (.slice ad n c) n xs:=by
  refine ⟨h.len,?_⟩
  rcases h.own with ⟨rfl,rfl,rfl⟩ | ⟨junk,ha,hB,hl,h1,h2⟩
  · exact .inl ⟨rfl,rfl⟩
  refine .inr ⟨ab ad,c,(xs++junk).toArray,by rw [← ha],Nat.zero_le _,hB,h1,h2,by simpa using hl,?_⟩
  rw [List.toList_toArray,← h.len,List.take_left]
theorem Row.of_owns {v:Value} (h:w.ownsRow 0 e sz v n xs):∃ ad c,v = .slice ad n c∧Row w e sz ad n c xs:=by
  obtain ⟨h0,h⟩:=h
  rcases h with ⟨rfl,rfl⟩ | ⟨g,cap,cur,rfl,-,hg,h1,h2,h3,h4⟩
  · exact ⟨none,0,rfl,h0,.inl ⟨rfl,rfl,rfl⟩⟩
  refine ⟨_,_,rfl,h0,.inr ⟨cur.toList.drop (n * sz),rfl,?_,?_,h1,h2⟩⟩
  · show w.heap[g]? = _
    rw [hg,← h4,List.take_append_drop]
  rw [← h4,List.take_append_drop]
  simpa using h3
end
section
variable {nz:Sz} {P:Program} {ops:Array Oper} {Q:Exit→Act→World→Prop} {H:World→Prop} {n:Nat} {l:List (Nat × Value)} {a:Act} {w:World} {s:List (Nat × How)} {i:Nat} {o:Oper} {d:Nat} {x y:Operand} {v u:Value} {t e:TypeId}
theorem st_eff {R:Value→World→Prop} (hT:Sl nz l a) (ho:ops[i]? = some o) (hd:o.dst = some d) (hn:Nat.blt d nz.n = true) (hw:wantedIn ops l o.guard = some true)
    (hv:∃ v w',(execOp a.eval o).run P w = .ok (.value v) w'∧R v w')
    (k:∀ v w',R v w'→∀ a',Sl nz ((d,v) :: l) a'→Ser P ops Q H s a' w'):Ser P ops Q H ((i,.run) :: s) a w:=by
  obtain ⟨v,w',hr,hR⟩:=hv
  exact st_run hT ho hd hn hw hr (k v w' hR)
theorem st_effkeep {R:Value→World→Prop} (hT:Sl nz l a) (ho:ops[i]? = some o) (hd:o.dst = some d) (hn:Nat.blt d nz.n = true) (hw:wantedIn ops l o.guard = some true)
    (hv:∃ v w',(execOp a.eval o).run P w = .ok (.value v) w'∧R v w')
    (k:∀ v w',R v w'→H w'∧∀ a',Sl nz ((d,v) :: l) a'→Ser P ops Q H s a' w'):Ser P ops Q H ((i,.keep) :: s) a w:=by
  obtain ⟨v,w',hr,hR⟩:=hv
  exact st_keep hT ho hd hn hw hr (k v w' hR).1 (k v w' hR).2
theorem st_act {R:World→Prop} (hT:Sl nz l a) (ho:ops[i]? = some o) (hd:o.dst = none) (hw:wantedIn ops l o.guard = some true)
    (hv:∃ w',(execOp a.eval o).run P w = .ok .skip w'∧R w')
    (k:∀ w',R w'→Ser P ops Q H s a w'):Ser P ops Q H ((i,.run) :: s) a w:=by
  obtain ⟨w',hr,hR⟩:=hv
  exact st_do hT ho hd hw hr (k w' hR)
/-! new variables -/
theorem x_box (hT:Sl nz l a) (hop:o.op = .box e x) (hx:opnd l x = some v) (w:World) :
    ∃ r w',(execOp a.eval o).run P w = .ok (.value r) w'∧∃ b,r = .pointer (some ⟨b,0,none⟩)∧New w b w' v.cells.toList e:=by
  exact ⟨_,_,by simp [execOp,hop,hT.eval hx,Instr.box,newVar,newRow],_,rfl,New.alloc w v.cells.toList e⟩
theorem x_alloc {z:Value} {sz by_:Nat} (hT:Sl nz l a) (hop:o.op = .alloc e) (hti:TI P e z sz by_) (w:World) :
    ∃ r w',(execOp a.eval o).run P w = .ok (.value r) w'∧∃ b,r = .pointer (some ⟨b,0,none⟩)∧New w b w' z.cells.toList e:=by
  have _:=hT
  exact ⟨_,_,by simp [execOp,hop,Instr.alloc,run_zeroValue hti,newVar,newRow],_,rfl,New.alloc w z.cells.toList e⟩
/-! stores -/
theorem setRow_blk {b:Nat} {cur:List Value} (h:Blk w b cur e) (cs:List Value):Blk (w.setRow b cs.toArray) b cs e∧Ext (One b) w (w.setRow b cs.toArray)∧(w.setRow b cs.toArray).heap.size = w.heap.size:=
  ⟨setRow_heap w b _ _ e (0,0) h,⟨rfl,rfl,rfl,by simp,fun k _ hk=>setRow_other w b k _ (fun h=>hk h),Nat.le_refl _⟩,by simp⟩
theorem run_storeCells {b off:Nat} {cur cs:List Value} (h:Blk w b cur e) (hfit:off + cs.length≤cur.length) (h1:∀ v ∈ cs,v.oneCell' = true) :
    ∃ w',(storeCells ⟨b,off,none⟩ cs).run P w = .ok () w'∧Blk w' b (cur.take off++cs++cur.drop (off + cs.length)) e∧Ext (One b) w w'∧w'.heap.size = w.heap.size:=by
  have hr:=run_storeCells_at P b off e cs 0 cur.toArray w h (by simpa using hfit) h1
  simp only [Nat.add_zero] at hr
  exact ⟨_,hr,setRow_blk h _⟩
theorem x_store {z:Value} {by_ b off:Nat} {cur cs:List Value} {t':TypeId} (hT:Sl nz l a) (hop:o.op = .store t x y) (hti:TI P t z cs.length by_) (hx:opnd l x = some (.pointer (some ⟨b,off,none⟩))) (hy:opnd l y = some v)
    (hv:v.cells = cs.toArray) (h:Blk w b cur t') (hfit:off + cs.length≤cur.length) (h1:∀ v ∈ cs,v.oneCell' = true) :
    ∃ w',(execOp a.eval o).run P w = .ok .skip w'∧Blk w' b (cur.take off++cs++cur.drop (off + cs.length)) t'∧Ext (One b) w w'∧w'.heap.size = w.heap.size:=by
  obtain ⟨w',hr,hR⟩:=run_storeCells (P:=P) h hfit h1
  refine ⟨w',?_,hR⟩
  simp [execOp,hop,hT.eval hx,hT.eval hy,Instr.storeAt,Instr.sureAddr,storeVar,hv,run_sizeOf hti,hr]
theorem x_store1 {z:Value} {by_ b off:Nat} {cur:List Value} {t':TypeId} (hT:Sl nz l a) (hop:o.op = .store t x y) (hti:TI P t z 1 by_) (hx:opnd l x = some (.pointer (some ⟨b,off,none⟩))) (hy:opnd l y = some v)
    (hv:v.oneCell' = true) (h:Blk w b cur t') (hfit:off < cur.length) :
    ∃ w',(execOp a.eval o).run P w = .ok .skip w'∧Blk w' b (cur.set off v) t'∧Ext (One b) w w'∧w'.heap.size = w.heap.size:=by
  have hc:v.cells = #[v]:=by cases v <;> first | rfl | cases hv
  obtain ⟨w',hr,hb,hR⟩:=x_store (P:=P) (w:=w) (cs:=[v]) hT hop (by simpa using hti) hx hy (by simpa using hc) h (by simp;omega) (by simpa using hv)
  refine ⟨w',hr,?_,hR⟩
  rw [List.set_eq_take_append_cons_drop,if_pos hfit]
  simpa using hb
/-! slices -/
theorem x_index {z:Value} {sz by_ m c k:Nat} {ad:Option Addr} {i:Int} {ik:IntKind} {vs:List Value} (hT:Sl nz l a) (hop:o.op = .indexAddr t x y) (hu:P.underlying t = some (.slice e)) (hti:TI P e z sz by_)
    (hs:Sv w ad m sz vs) (hx:opnd l x = some (.slice ad m c)) (hy:opnd l y = some (.int ik i)) (hi:i = (k:Int)) (hk:k < m) (w':World) :
    (execOp a.eval o).run P w' = .ok (.value (.pointer (some ⟨ab ad,ao ad + k * sz,none⟩))) w':=by
  rw [hs.pos (by omega)] at hx
  exact x_indexAddr hT hop hu hti hx hy hi hk w'
def cutAt (ad:Option Addr) (sz lo c:Nat):Option Addr:=if c = lo then ad else ad.map (·.add (lo * sz))
theorem cutAt_zero (ad:Option Addr) (sz c:Nat):cutAt ad sz 0 c = ad:=by
  unfold cutAt
  split
  · rfl
  cases ad <;> simp [Addr.add]
theorem Sv.cut {ad:Option Addr} {m sz c lo hi:Nat} {vs:List Value} (h:Sv w ad m sz vs) (h1:lo≤hi) (h2:hi≤m) (h3:m≤c):Sv w (cutAt ad sz lo c) (hi - lo) sz ((vs.drop (lo * sz)).take ((hi - lo) * sz)):=by
  have hl:=h.len
  have hm:hi * sz≤m * sz:=Nat.mul_le_mul_right _ h2
  have hd:(hi - lo) * sz = hi * sz - lo * sz:=Nat.sub_mul ..
  rcases Nat.lt_or_ge lo hi with hlt | hge
  · have hp:=h.pos (by omega)
    have hne:¬ c = lo:=by omega
    have e1:cutAt ad sz lo c = some ⟨ab ad,ao ad + lo * sz,none⟩:=by
      unfold cutAt
      rw [if_neg hne]
      conv=>lhs;rw [hp]
      simp [add_addr]
    rw [e1]
    refine ⟨by rw [List.length_take,List.length_drop];omega,fun _=>rfl,?_⟩
    exact (h.cs.drop _).take _
  have:hi - lo = 0:=by omega
  rw [this,Nat.zero_mul,List.take_zero]
  exact Sv.empty _ _ _
theorem x_slice {lo hi mx:Option Operand} {r:Value} (hT:Sl nz l a) (hop:o.op = .slice t x lo hi mx) (hx:opnd l x = some v)
    (hr:(Instr.sliceAt t v (lo.map a.eval) (hi.map a.eval) (mx.map a.eval)).run P w = .ok r w):(execOp a.eval o).run P w = .ok (.value r) w:=by
  simp [execOp,hop,hT.eval hx,hr]
/-! append -/
theorem run_append {z:Value} {sz by_:Nat} {ty:TypeId} {ad ad2:Option Addr} {m c m2 c2:Nat} {xs news:List Value} (hu:P.underlying t = some (.slice e)) (hti:TI P e z sz by_) (hz:z.cells.size = sz) (hsz:0 < sz)
    (hrow:Row w e sz ad m c xs) (hs:Sv w ad2 m2 sz news) (h1:∀ u ∈ news,u.oneCell' = true) (hnil:ad2 = none→m2 = 0∧c2 = 0) (h63:m + m2≤maxLen) (hby:(m + m2) * by_≤140737488355328) :
    ∃ ad' c' w',(Builtin.append_ #[t,t] ty #[.slice ad m c,.slice ad2 m2 c2]).run P w = .ok (.slice ad' (m + m2) c') w'∧Row w' e sz ad' (m + m2) c' (xs++news)∧Ext (Own ad) w w' ∧
      (∀ k,Own ad' k→Own ad k∨w.heap.size≤k)∧(m + m2≤c→ad' = ad∧c' = c):=by
  obtain ⟨i,hi,hiz,his,hib⟩:=hti.ti
  cases ad2 with
  | none=>
    obtain ⟨rfl,rfl⟩:=hnil rfl
    have hn:news = []:=List.eq_nil_of_length_eq_zero (by simpa using hs.len)
    subst hn
    have hle:=hrow.le.1
    refine ⟨ad,c,w,?_,by simpa using hrow,Ext.refl _ _,fun k hk=>.inl hk,fun _=>⟨rfl,rfl⟩⟩
    cases ad <;> simp [Builtin.append_,run_underlying hu,sizeOf,typeInfo,hi,Builtin.lenOf,Builtin.firstCells,storeCells,hle]
  | some p=>
    have hnews:∀ j u,news[j]? = some u→w.cell? (p.add j) = some u:=fun j u hj=>by
      rcases Nat.eq_zero_or_pos m2 with h0 | h0
      · have:news = []:=List.eq_nil_of_length_eq_zero (by rw [hs.len,h0];simp)
        subst this
        simp at hj
      have hp:=hs.pos h0
      simp only [Option.some.injEq] at hp
      rw [hp,add_addr]
      exact hs.cs j u hj
    obtain ⟨v',w',hr,hown,hg,-⟩:=run_append_own (P:=P) w 0 t ty e i z sz by_ hu hi hiz his hib hz hsz (.slice ad m c) m xs hrow.owns p m2 c2 news hs.len hnews h1 h63 hby (Nat.zero_le _)
    obtain ⟨ad',c',rfl,hrow'⟩:=Row.of_owns hown
    have hwhere:(Own ad' = No∨(∃ p,ad' = some ⟨p,0,Option.none⟩∧w.heap.size≤p)∨ad' = ad)∧(m + m2≤c→ad' = ad∧c' = c):=by
      have hsmall:m + m2≤9223372036854775807:=by simp only [maxLen] at h63;omega
      rcases hrow.own with ⟨rfl,rfl,rfl⟩ | ⟨junk,ha,hB,hl,hmc,hcm⟩
      · by_cases hm:m2 = 0
        · subst hm
          have h2:=hr.symm.trans (show (Builtin.append_ #[t,t] ty #[.slice none 0 0,.slice (some p) 0 c2]).run P w = .ok (.slice none 0 0) w by
            simp [Builtin.append_,run_underlying hu,sizeOf,typeInfo,hi,Builtin.lenOf,Builtin.firstCells,loadCells,loadCellsFrom])
          simp only [Result.ok.injEq,Value.slice.injEq] at h2
          exact ⟨.inr (.inr h2.1.1),fun _=>⟨h2.1.1,h2.1.2.2⟩⟩
        have h2:=hr.symm.trans (run_append_nil (P:=P) w t ty e i z hu hi hiz p m2 c2 news (by rw [his];exact hs.len) hnews (by omega) (by omega) (by rw [hib];simp only [Nat.zero_add] at hby;omega))
        simp only [Result.ok.injEq,Value.slice.injEq] at h2
        exact ⟨.inr (.inl ⟨_,h2.1.1,Nat.le_refl _⟩),fun h=>by omega⟩
      by_cases hroom:m + m2≤c
      · have h3:=run_append_room (P:=P) w t ty e i hu hi (ab ad) m c (xs++junk).toArray hB p m2 c2 news (by rw [his];exact hs.len) hnews h1 hroom (by
            have:=Nat.mul_le_mul_right sz hroom
            rw [Nat.add_mul] at this
            rw [his,hs.len,List.size_toArray,hl];exact this)
        rw [← ha] at h3
        have h2:=hr.symm.trans h3
        simp only [Result.ok.injEq,Value.slice.injEq] at h2
        exact ⟨.inr (.inr h2.1.1),fun _=>⟨h2.1.1,h2.1.2.2⟩⟩
      have hcs:∀ j u,xs[j]? = some u→w.cell? ((⟨ab ad,0,none⟩:Addr).add j) = some u:=fun j u hj=>by
        rw [add_addr,Nat.zero_add]
        exact hB.cell (by rw [List.getElem?_append_left (List.getElem?_eq_some_iff.1 hj).1];exact hj)
      have h3:=run_append_grow (P:=P) w t ty e i z hu hi hiz ⟨ab ad,0,none⟩ m c xs (by rw [his];exact hrow.len) hcs p m2 c2 news (by rw [his];exact hs.len) hnews (by omega) (by omega) (growslice_fits (by omega) (by rw [hib];exact hby))
      rw [← ha] at h3
      have h2:=hr.symm.trans h3
      simp only [Result.ok.injEq,Value.slice.injEq] at h2
      exact ⟨.inr (.inl ⟨_,h2.1.1,Nat.le_refl _⟩),fun h=>absurd h hroom⟩
    refine ⟨ad',c',w',hr,hrow',(Ext.of_grown hg (run_drawn _ _ _ _ _ hr)).mono fun k _ hk=>?_,fun k hk=>?_,hwhere.2⟩
    · cases ad with
      | none=>simp [Value.ownBlock] at hk
      | some q=>simp [Value.ownBlock] at hk;simp [Own,hk]
    · rcases hwhere.1 with h | ⟨q,h,hq⟩ | h
      · rw [h] at hk;exact hk.elim
      · rw [h] at hk;simp [Own] at hk;exact .inr (by omega)
      rw [h] at hk;exact .inl hk
theorem x_append {z:Value} {sz by_:Nat} {ts:Array TypeId} {ad ad2:Option Addr} {m c m2 c2:Nat} {xs news:List Value} (hT:Sl nz l a) (hop:o.op = .call { callee:=.builtin .append,args:=#[x,y],argTypes:=ts }) (hts:ts = #[t,t])
    (hu:P.underlying t = some (.slice e)) (hti:TI P e z sz by_) (hz:z.cells.size = sz) (hsz:0 < sz) (hx:opnd l x = some (.slice ad m c)) (hy:opnd l y = some (.slice ad2 m2 c2))
    (hrow:Row w e sz ad m c xs) (hs:Sv w ad2 m2 sz news) (h1:∀ u ∈ news,u.oneCell' = true) (hnil:ad2 = none→m2 = 0∧c2 = 0) (h63:m + m2≤maxLen) (hby:(m + m2) * by_≤140737488355328) :
    ∃ r w',(execOp a.eval o).run P w = .ok (.value r) w'∧∃ ad' c',r = .slice ad' (m + m2) c'∧Row w' e sz ad' (m + m2) c' (xs++news)∧Ext (Own ad) w w'∧(∀ k,Own ad' k→Own ad k∨w.heap.size≤k)∧(m + m2≤c→ad' = ad∧c' = c):=by
  subst hts
  obtain ⟨ad',c',w',hr,hR⟩:=run_append (P:=P) (w:=w) (ty:=o.type) hu hti hz hsz hrow hs h1 hnil h63 hby
  exact ⟨_,w',by simp [execOp,hop,resolve,invoke,builtin,hT.eval hx,hT.eval hy,hr],ad',c',rfl,hR⟩
/-! literals -/
end
def placesOf (fields:Array Field):Sem (Array (Nat × Nat)):=fields.mapM fun f=>do pure (f.offset,← sizeOf f.type)
structure Bld (P:Program) (t:TypeId) (zs:Array Value) (places:Array (Nat × Nat)):Prop where
  bld:∃ z sz by_ fields,TI P t z sz by_∧z.cells = zs∧P.underlying t = some (.struct fields)∧∀ w,(placesOf fields).run P w = .ok places w
section
variable {nz:Sz} {P:Program} {n:Nat} {l:List (Nat × Value)} {a:Act} {w:World} {o:Oper} {t:TypeId}
theorem run_build {zs cs:Array Value} {places:Array (Nat × Nat)} {parts:Array (Nat × Value)} (hb:Bld P t zs places) (hf:Instr.fill (places[·]?) zs parts.toList = some cs):(Instr.build t parts).run P w = .ok (.agg cs) w:=by
  obtain ⟨z,sz,by_,fields,hti,rfl,hu,hp⟩:=hb.bld
  have hp:=hp w
  unfold placesOf at hp
  simp only [Instr.build,Sem.run_bind,run_zeroValue hti,run_underlying hu,Result.andThen_ok,hp,hf,Sem.run_pure]
theorem x_build {zs cs:Array Value} {places:Array (Nat × Nat)} {parts:Array (Nat × Operand)} {vs:List (Nat × Value)} (hop:o.op = .build t parts) (hb:Bld P t zs places)
    (hp:(parts.map fun (i,x)=>(i,a.eval x)).toList = vs) (hf:Instr.fill (places[·]?) zs vs = some cs):(execOp a.eval o).run P w = .ok (.value (.agg cs)) w:=by
  subst hp
  simp only [execOp,hop,Sem.run_bind,run_build hb hf,Result.andThen_ok,Sem.run_pure]
end
end Go.Sx
