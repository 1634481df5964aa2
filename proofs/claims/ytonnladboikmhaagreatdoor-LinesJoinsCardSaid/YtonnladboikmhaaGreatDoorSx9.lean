/- Calls that may panic; deferred calls, and what is recovered behind them. -/
import Derived.Test.YtonnladboikmhaaGreatDoorSx8
import Derived.Test.YtonnladboikmhaaGreatDoorSx0
import Derived.Test.YtonnladboikmhaaGreatDoorSx1
import Derived.Recover
namespace Go.Sx
section
variable {P:Program} {ops:Array Oper} {Q:Exit→Act→World→Prop} {H:World→Prop} {nz:Sz} {l:List (Nat × Value)} {a:Act} {w:World} {s:List (Nat × How)} {i d:Nat} {o:Oper}
theorem st_callE {f:FuncId} {xs:List Operand} {ts:Array TypeId} {vs:List Value} {R:Ending→World→Prop}
    (hT:Sl nz l a) (ho:ops[i]? = some o) (hop:o.op = .call { callee:=.value (.func f),args:=xs.toArray,argTypes:=ts }) (hd:o.dst = some d) (hn:Nat.blt d nz.n = true) (hw:wantedIn ops l o.guard = some true)
    (hc:Can P f) (hx:opnds l xs = some vs) (hC:Calls P f vs.toArray w R)
    (k:∀ e w',R e w'→(∃ v,e = .returned v∧∀ a',Sl nz ((d,v) :: l) a'→Ser P ops Q H s a' w')∨∃ ch,e = .panicked ch∧Q (.panic ch) a w'):Ser P ops Q H ((i,.run) :: s) a w:=by
  have hlt:d < nz.n:=Nat.le_of_ble_eq_true hn
  show wpOp P ops Q i (Ser P ops Q H s) a w
  simp only [wpOp,ho,hT.wanted hw,if_true,Oper.wp,run_call hT hop hc hx,Oper.upon]
  refine .inl (hC.mono fun e w' hR=>?_)
  rcases k e w' hR with ⟨v,rfl,hk⟩ | ⟨ch,rfl,hk⟩
  · show Ser P ops Q H s (a.put o.dst v) w'
    rw [hd]
    exact hk _ (hT.put hlt v)
  exact hk
theorem st_callEkeep {f:FuncId} {xs:List Operand} {ts:Array TypeId} {vs:List Value} {R:Ending→World→Prop}
    (hT:Sl nz l a) (ho:ops[i]? = some o) (hop:o.op = .call { callee:=.value (.func f),args:=xs.toArray,argTypes:=ts }) (hd:o.dst = some d) (hn:Nat.blt d nz.n = true) (hw:wantedIn ops l o.guard = some true)
    (hc:Can P f) (hx:opnds l xs = some vs) (hC:Calls P f vs.toArray w R)
    (k:∀ e w',R e w'→(∃ v,e = .returned v∧H w'∧∀ a',Sl nz ((d,v) :: l) a'→Ser P ops Q H s a' w')∨∃ ch,e = .panicked ch∧Q (.panic ch) a w'):Ser P ops Q H ((i,.keep) :: s) a w:=by
  have hlt:d < nz.n:=Nat.le_of_ble_eq_true hn
  show wpOp P ops Q i (fun a' w'=>(H w→H w')∧Ser P ops Q H s a' w') a w
  simp only [wpOp,ho,hT.wanted hw,if_true,Oper.wp,run_call hT hop hc hx,Oper.upon]
  refine .inl (hC.mono fun e w' hR=>?_)
  rcases k e w' hR with ⟨v,rfl,hH,hk⟩ | ⟨ch,rfl,hk⟩
  · show (H w→H w')∧Ser P ops Q H s (a.put o.dst v) w'
    rw [hd]
    exact ⟨fun _=>hH,hk _ (hT.put hlt v)⟩
  exact hk
def Brave (Q:Exit→Act→World→Prop):Exit→Act→World→Prop
  | .panic c,a,w=>∀ a',a'.defers = a.defers→Q (.panic c) a' w
  | e,a,w=>Q e a w
theorem Brave.imp:∀ (e:Exit) (a:Act) (w:World),Brave Q e a w→Q e a w:=fun e a w h=>by
  cases e <;> first | exact h | exact h a rfl
theorem ser_brave (h:Q .normal a w):Ser P ops (Brave Q) H [] a w:=h
theorem put_defers (d:Option Tmp) (v:Value):(a.put d v).defers = a.defers:=by cases d <;> rfl
theorem wp_drawnP {id:Nat} (H:World→Prop) (s:List (Nat × How)) (hm:P.follows .mixedOrders = true)
    (hs:(Region.noSelect ops && Nat.ble s.length ops.size && good .any ops (mark s) s (Array.replicate ops.size false)) = true)
    (h:Ser P ops (Brave Q) H s a w.drew):(Code.region id ops true).wp P Q a w:=by
  simp only [Bool.and_eq_true] at hs
  refine Code.wp_mono Brave.imp (wp_region_any hm (AnyK.any _ _ _ _ (Ser.any hs.1.1 (fun c a w d v h=>?_) s _ _ _ _ (Nat.le_of_ble_eq_true hs.1.2) hs.2 h)))
  exact fun a' h1=>h a' (h1.trans (put_defers _ _).symm)
theorem wp_drawsP {id:Nat} (H:World→World→Prop) (s:List (Nat × How)) (hm:P.follows .mixedOrders = true)
    (hs:(Region.noSelect ops && Nat.ble s.length ops.size && good .any ops (mark s) s (Array.replicate ops.size false)) = true)
    (h:∀ w',Ext No w w'→w'.heap.size = w.heap.size→Ser P ops (Brave Q) (H w') s a w'):(Code.region id ops true).wp P Q a w:=
  wp_drawnP (H w.drew) s hm hs (h _ (Ext.drew w) rfl)
theorem then_panic {K:Act→World→Prop} {ch:List PanicEntry} (h:Q (.panic ch) a w):Exit.then K Q (.panic ch) a w:=h
theorem block_panic {i:Nat} {ch:List PanicEntry} (h:Q (.panic ch) a w):Exit.inBlock i Q (.panic ch) a w:=h
theorem done_panic {fn:Func} {R:Ending→World→Prop} {ch:List PanicEntry} (hd:a.defers = []) (h:R (.panicked ch) w):bodyPost P fn R (.panic ch) a w:=⟨hd,h⟩
theorem x_makeIface {t:TypeId} {u:TypeDesc} {x:Operand} {v:Value} (hT:Sl nz l a) (hop:o.op = .makeInterface t x) (hu:P.underlying t = some u) (hn:∀ ms,u ≠ .interface ms) (hx:opnd l x = some v) (w:World) :
    (execOp a.eval o).run P w = .ok (.value (.iface t v)) w:=by
  have h1:(Instr.makeInterface t v).run P w = .ok (.iface t v) w:=by
    unfold Instr.makeInterface
    cases u <;> simp_all [underlying,program,Sem.run]
  simp [execOp,hop,hT.eval hx,h1]
theorem st_panic {x:Operand} {v:Value} (hT:Sl nz l a) (ho:ops[i]? = some o) (hop:o.op = .panic x) (hw:wantedIn ops l o.guard = some true) (hx:opnd l x = some v) (hv:∃ t p,v = .iface t p)
    (k:Q (.panic [{ v:=v,recovered:=false }]) a w):Ser P ops Q H ((i,.run) :: s) a w:=by
  obtain ⟨t,p,rfl⟩:=hv
  show wpOp P ops Q i (Ser P ops Q H s) a w
  have hr:(execOp a.eval o).run P w = .halt (.panic (.iface t p)) w:=by
    have e:=hT.eval hx
    simp [execOp,hop,Instr.panic,e,Sem.run]
  simp only [wpOp,ho,hT.wanted hw,if_true,Oper.wp,hr,Oper.upon]
  exact .inl k
theorem st_defer {k:Nat} {D:List Deferred} {x:Operand} {ts:Array TypeId} {f:FuncId} {cs:List Value} (hT:Sl ⟨k,D⟩ l a) (ho:ops[i]? = some o) (hop:o.op = .defer { callee:=.value x,args:=#[],argTypes:=ts }) (hd:o.dst = none) (hw:wantedIn ops l o.guard = some true)
    (hx:opnd l x = some (.func (.func f) #[] cs.toArray))
    (K:∀ a',Sl ⟨k,{ target:=.fn (.func f) cs.toArray,args:=#[] } :: D⟩ l a'→Ser P ops Q H s a' w):Ser P ops Q H ((i,.run) :: s) a w:=by
  show wpOp P ops Q i (Ser P ops Q H s) a w
  have hr:(execOp a.eval o).run P w = .ok (.defer { target:=.fn (.func f) cs.toArray,args:=#[] }) w:=by
    have e:=hT.eval hx
    simp [execOp,hop,resolve,Deferred.ofValue,e]
  simp only [wpOp,ho,hT.wanted hw,if_true,Oper.wp,hr,Oper.upon]
  refine .inl (K _ ?_)
  rw [hd]
  exact ⟨by show _ :: a.defers = _;rw [hT.defers],hT.size,hT.get⟩
theorem calls_into_d {f:FuncId} {fn:Func} {c:Code} {vs:List Value} {R:Ending→World→Prop} {k:Nat}
    (hf:P.funcs[f]? = some fn) (hb:fn.body = some c) (hk:fn.ntmps = k) (hlen:Nat.ble vs.length k = true)
    (h:∀ a,Sl ⟨k,[]⟩ (enum vs 0) a→c.wp P (bodyPostD P fn R) a w):Calls P f vs.toArray w R:=by
  refine calls_of_wp_defers hf hb ?_
  rw [hk]
  exact h _ (Sl.enter (Nat.le_of_ble_eq_true hlen))
theorem door1 {fn:Func} {R:Ending→World→Prop} {g:FuncId} {cs:List Value} {u:FrameMode} (hd:a.defers = [{ target:=.fn (.func g) cs.toArray,args:=#[] }]) (hu:u ≠ .run) (hc:Can P g)
    (h:CallsD P g cs.toArray u w fun
      | .returned _,u',w'=>Leaves P fn a.tmps R [] (settle u') w'
      | .panicked chain,u',w'=>Leaves P fn a.tmps R [] (raised u' chain) w'
      | .outgrown,_,w'=>R .outgrown w'):Leaves P fn a.tmps R a.defers u w:=by
  rw [hd]
  refine leaves_cons (f:=g) (args:=cs.toArray) hu ?_ h
  show (invoke (.fn (.func g) cs.toArray) #[]).run P w = _
  simp [invoke,run_callFunc hc]
theorem out1 {fn:Func} {R:Ending→World→Prop} {r r':ResultVar} {v v':Value} (hr:fn.results = #[r,r']) (h1:Res P a w r v) (h2:Res P a w r' v') (h:R (.returned (.tuple #[v,v'])) w):Leaves P fn a.tmps R [] .returning w:=
  ⟨_,by cases h1 <;> cases h2 <;> simp [results,asAddr, *],h⟩
theorem callsD_into {f:FuncId} {fn:Func} {c1 c2:Code} {vs:List Value} {u:FrameMode} {R:Ending→FrameMode→World→Prop} {k:Nat}
    (hf:P.funcs[f]? = some fn) (hb:fn.body = some (.seq c1 c2)) (hk:fn.ntmps = k) (hlen:Nat.ble vs.length k = true)
    (h:∀ a (c₀:Frame) (cs:List Frame),c₀.mode = u→Sl ⟨k,[]⟩ (enum vs 0) a→c1.wpS P (Exit.thenS (c2.wpS P (bodyPostS P fn c₀ cs R)) (bodyPostS P fn c₀ cs R)) a (c₀ :: cs) w):CallsD P f vs.toArray u w R:=by
  refine callsD_of_wpS hf hb fun c₀ cs hu=>?_
  rw [hk]
  exact wpS_seq (h _ c₀ cs hu (Sl.enter (Nat.le_of_ble_eq_true hlen)))
end
/-! trees of forks in which a call may panic -/
section
variable {P:Program} {ops:Array Oper} {Q Q1 Q2:Exit→Act→World→Prop} {md:Region.Mode} {H:World→Prop} {kp:Nat→Bool}
theorem brave_put {c:List PanicEntry} {a:Act} {d:Option Tmp} {v:Value} {w:World} (h:Brave Q (.panic c) (a.put d v) w):Brave Q (.panic c) a w:=fun a' h1=>h a' (h1.trans (put_defers _ _).symm)
def NrmP (Q:Exit→Act→World→Prop) (K:Act→World→Prop):Exit→Act→World→Prop
  | .normal,a,w=>K a w
  | .panic c,a,w=>Brave Q (.panic c) a w
  | _,_,_=>False
theorem nrmP_panic {K:Act→World→Prop}:∀ c a w,NrmP Q K (.panic c) a w→Brave Q (.panic c) a w:=fun _ _ _ h=>h
def TSerP (P:Program) (ops:Array Oper) (Q:Exit→Act→World→Prop) (H:World→Prop):Tr→Act→World→Prop
  | .leaf s=>Ser P ops (Brave Q) H s
  | .node s l r=>Ser P ops (NrmP Q fun a w=>TSerP P ops Q H l a w∧TSerP P ops Q H r a w) H s
theorem seg_anyP (hs:Region.noSelect ops = true) (t1:∀ c a w,Q1 (.panic c) a w→Brave Q (.panic c) a w) (hl:LetsOut Q1→LetsOut (Brave Q)) {l2:Array Bool} {f:Nat} (hK:∀ a w,Q1 .normal a w→AnyK P md ops (Brave Q) H kp f l2 a w) :
    ∀ (s:List (Nat × How)) (listed:Array Bool) (a:Act) (w:World),goodS md ops kp false s listed = some l2→Ser P ops Q1 H s a w→AnyK P md ops (Brave Q) H kp (f + s.length) listed a w:=by
  intro s
  induction s with
  | nil=>intro listed a w hg hser;cases hg;exact hK a w hser
  | cons p s ih=>
    intro listed a w hg hser
    obtain ⟨i,how⟩:=p
    have hq:=t1
    have one:lone1 (Region.ready md ops listed) i = true→Region.ready md ops listed = [i]:=lone1_eq
    cases how with
    | take=>
      obtain ⟨o,v,ho,hy,hrest⟩:=hser
      simp only [goodS] at hg
      split at hg
      · rename_i hc
        simp only [Bool.and_eq_true] at hc
        exact AnyK.first0 ho (Region.noSelect_spec hs) (fun c a w h=>brave_put h) (f + s.length) listed a w (Region.free_spec ho hc.2) (by simpa using hc.1.2) hy (ih _ _ _ hg hrest)
      cases hg
    | held=>
      obtain ⟨o,v,ho,hy,hH,hrest⟩:=hser
      simp only [goodS] at hg
      split at hg
      · rename_i hc
        simp only [Bool.and_eq_true] at hc
        obtain ⟨⟨⟨-,hr⟩,hf⟩,hk⟩:=hc
        exact AnyK.first ho (Region.noSelect_spec hs) (fun c a w h=>brave_put h) (fun j=>(downs md ops listed i).getD j false = true) (fun j oj hd=>(downs_spec hk j hd).2 oj) (f + s.length) listed a w
          (fun j oj hj hne hun hno=>⟨Region.free_spec ho hf j oj hj hne hun hno,waits_spec hk j oj hj hne hun⟩) (fun j hd=>(downs_spec hk j hd).1) (by simpa using hr) hy hH
          (ih _ _ _ hg hrest)
      cases hg
    | run=>
      simp only [goodS,Bool.false_or] at hg
      split at hg
      · rename_i hc
        simp only [Bool.and_eq_true,Bool.not_eq_true'] at hc
        have hri:=one hc.1
        refine ⟨fun h=>(by rw [hri] at h;cases h),fun j hj=>?_⟩
        rw [hri,List.mem_singleton] at hj
        subst hj
        exact wpOp_mono (fun a' w' h=>⟨(fun h' _=>by rw [hc.2] at h';cases h'),ih _ _ _ hg h⟩) (wpOp_q hq hl hser)
      cases hg
    | keep=>
      simp only [goodS,Bool.false_or] at hg
      split at hg
      · rename_i hc
        have hri:=one hc
        refine ⟨fun h=>(by rw [hri] at h;cases h),fun j hj=>?_⟩
        rw [hri,List.mem_singleton] at hj
        subst hj
        exact wpOp_mono (fun a' w' h=>⟨fun _=>h.1,ih _ _ _ hg h.2⟩) (wpOp_q hq hl hser)
      cases hg
theorem seg_oneP (hs:Region.noSelect ops = true) (t1:∀ c a w,Q1 (.panic c) a w→Brave Q (.panic c) a w) (hl:LetsOut Q1→LetsOut (Brave Q)) {l2:Array Bool} {f:Nat} (hK:∀ a w,Q1 .normal a w→AnyK P md ops (Brave Q) H kp f l2 a w)
    {i:Nat} {h:How} {s:List (Nat × How)} {listed:Array Bool} {a:Act} {w:World} (hg:goodS md ops kp true ((i,h) :: s) listed = some l2) (hser:Ser P ops Q1 H ((i,h) :: s) a w) :
    wpOp P ops (Brave Q) i (fun a' w'=>(kp i = true→H w→H w')∧AnyK P md ops (Brave Q) H kp (f + s.length) (listed.setIfInBounds i true) a' w') a w:=by
  have hq:=t1
  cases h with
  | take=>simp [goodS] at hg
  | held=>simp [goodS] at hg
  | run=>
    simp only [goodS,Bool.true_or,Bool.true_and] at hg
    split at hg
    · rename_i hc
      simp only [Bool.not_eq_true'] at hc
      exact wpOp_mono (fun a' w' h=>⟨(fun h' _=>by rw [hc] at h';cases h'),seg_anyP hs t1 hl hK s _ _ _ hg h⟩) (wpOp_q hq hl hser)
    cases hg
  | keep=>
    simp only [goodS,Bool.true_or,if_true] at hg
    exact wpOp_mono (fun a' w' h=>⟨fun _=>h.1,seg_anyP hs t1 hl hK s _ _ _ hg h.2⟩) (wpOp_q hq hl hser)
theorem letsOut_nrmP {K:Act→World→Prop} (h:LetsOut (NrmP Q K)):LetsOut (Brave Q):=by
  obtain ⟨a,w,h⟩:=h
  exact h.elim
theorem tree_anyP (hs:Region.noSelect ops = true):∀ (t:Tr) (listed:Array Bool) (a:Act) (w:World),TSerP P ops Q H t a w →
    (goodT md ops kp false t listed = true→AnyK P md ops (Brave Q) H kp t.len listed a w) ∧
    (goodT md ops kp true t listed = true→∀ i ∈ t.heads,wpOp P ops (Brave Q) i (fun a' w'=>(kp i = true→H w→H w')∧AnyK P md ops (Brave Q) H kp (t.len - 1) (listed.setIfInBounds i true) a' w') a w):=by
  intro t
  induction t with
  | leaf s=>
    intro listed a w hser
    refine ⟨fun hg=>?_,fun hg i hi=>?_⟩
    · simp only [goodT] at hg
      split at hg
      · rename_i l2 hl2
        simp only [Bool.and_eq_true,List.isEmpty_iff] at hg
        have:=seg_anyP (f:=0) hs (fun c a w h=>h) (fun h=>h) (fun a w h=>(⟨hg.2,h⟩:AnyK P md ops (Brave Q) H kp 0 l2 a w)) s listed a w hl2 hser
        rwa [Nat.zero_add] at this
      cases hg
    cases s with
    | nil=>simp [Tr.heads] at hi
    | cons p s=>
      obtain ⟨i',h⟩:=p
      simp only [Tr.heads,List.mem_singleton] at hi
      subst hi
      simp only [goodT] at hg
      split at hg
      · rename_i l2 hl2
        simp only [Bool.and_eq_true,List.isEmpty_iff] at hg
        have:=seg_oneP (f:=0) hs (fun c a w h=>h) (fun h=>h) (fun a w h=>(⟨hg.2,h⟩:AnyK P md ops (Brave Q) H kp 0 l2 a w)) hl2 hser
        exact wpOp_mono (fun a' w' h=>⟨h.1,AnyK.le _ _ _ _ _ (by simp [Tr.len]) h.2⟩) this
      cases hg
  | node s l r ihl ihr=>
    intro listed a w hser
    have hser:Ser P ops (NrmP Q fun a w=>TSerP P ops Q H l a w∧TSerP P ops Q H r a w) H s a w:=hser
    have hend:∀ l2,(!(Region.ready md ops l2).isEmpty && (Region.ready md ops l2).all (fun i=>(l.heads++r.heads).contains i) && goodT md ops kp true l l2 && goodT md ops kp true r l2) = true →
        ∀ a w,(NrmP Q fun a w=>TSerP P ops Q H l a w∧TSerP P ops Q H r a w) .normal a w→AnyK P md ops (Brave Q) H kp (max l.len r.len) l2 a w:=by
      intro l2 hg a w ⟨h1,h2⟩
      simp only [Bool.and_eq_true,Bool.not_eq_true'] at hg
      obtain ⟨⟨⟨g1,g2⟩,g3⟩,g4⟩:=hg
      have hmem:∀ i ∈ Region.ready md ops l2,i ∈ l.heads∨i ∈ r.heads:=fun i hi=>by
        have hm:=List.all_eq_true.1 g2 i hi
        have hm:i ∈ l.heads++r.heads:=by simpa using hm
        exact List.mem_append.1 hm
      have hF:1≤max l.len r.len:=by
        cases hr:Region.ready md ops l2 with
        | nil=>rw [hr] at g1;cases g1
        | cons x xs=>
          rcases hmem x (by rw [hr];exact List.mem_cons_self) with h | h
          · have:=heads_len h;omega
          have:=heads_len h;omega
      obtain ⟨F,hF'⟩:∃ F,max l.len r.len = F + 1:=⟨max l.len r.len - 1,by omega⟩
      rw [hF']
      refine ⟨fun h9=>(by rw [h9] at g1;cases g1),fun i hi=>?_⟩
      rcases hmem i hi with hm | hm
      · exact wpOp_mono (fun a' w' h=>⟨h.1,AnyK.le _ _ _ _ _ (by omega) h.2⟩) ((ihl l2 a w h1).2 g3 i hm)
      exact wpOp_mono (fun a' w' h=>⟨h.1,AnyK.le _ _ _ _ _ (by omega) h.2⟩) ((ihr l2 a w h2).2 g4 i hm)
    refine ⟨fun hg=>?_,fun hg i hi=>?_⟩
    · simp only [goodT] at hg
      split at hg
      · rename_i l2 hl2
        have:=seg_anyP hs nrmP_panic letsOut_nrmP (hend l2 hg) s listed a w hl2 hser
        rw [Nat.add_comm] at this
        exact this
      cases hg
    cases s with
    | nil=>
      simp only [goodT,Bool.and_eq_true] at hg
      simp only [Tr.heads,List.mem_append] at hi
      obtain ⟨h1,h2⟩:=(show TSerP P ops Q H l a w∧TSerP P ops Q H r a w from hser)
      have e:(Tr.node [] l r).len = max l.len r.len:=by simp [Tr.len]
      rw [e]
      rcases hi with hm | hm
      · exact wpOp_mono (fun a' w' h=>⟨h.1,AnyK.le _ _ _ _ _ (by omega) h.2⟩) ((ihl listed a w h1).2 hg.1 i hm)
      exact wpOp_mono (fun a' w' h=>⟨h.1,AnyK.le _ _ _ _ _ (by omega) h.2⟩) ((ihr listed a w h2).2 hg.2 i hm)
    | cons p s=>
      obtain ⟨i',h⟩:=p
      simp only [Tr.heads,List.mem_singleton] at hi
      subst hi
      simp only [goodT] at hg
      split at hg
      · rename_i l2 hl2
        have:=seg_oneP hs nrmP_panic letsOut_nrmP (hend l2 hg) hl2 hser
        exact wpOp_mono (fun a' w' h=>⟨h.1,AnyK.le _ _ _ _ _ (by simp [Tr.len];omega) h.2⟩) this
      cases hg
theorem wp_drawnTP {id:Nat} {a:Act} {w:World} (H:World→Prop) (t:Tr) (hm:P.follows .mixedOrders = true)
    (hs:(Region.noSelect ops && Nat.ble t.len ops.size && goodT .any ops (mark t.flat) false t (Array.replicate ops.size false)) = true)
    (h:TSerP P ops Q H t a w.drew):(Code.region id ops true).wp P Q a w:=by
  simp only [Bool.and_eq_true] at hs
  exact Code.wp_mono Brave.imp (wp_region_any hm (AnyK.any _ _ _ _ (AnyK.le _ _ _ _ _ (Nat.le_of_ble_eq_true hs.1.2) ((tree_anyP hs.1.1 t _ _ _ h).1 hs.2))))
theorem tser_leafP {s:List (Nat × How)} {a:Act} {w:World} (h:Ser P ops (Brave Q) H s a w):TSerP P ops Q H (.leaf s) a w:=h
theorem tser_nodeP {s:List (Nat × How)} {l r:Tr} {a:Act} {w:World} (h:Ser P ops (NrmP Q fun a w=>TSerP P ops Q H l a w∧TSerP P ops Q H r a w) H s a w):TSerP P ops Q H (.node s l r) a w:=h
theorem ser_forkTP {A B:Act→World→Prop} {a:Act} {w:World} (h1:A a w) (h2:B a w):Ser P ops (NrmP Q fun a w=>A a w∧B a w) H [] a w:=⟨h1,h2⟩
theorem wp_drawsTP {id:Nat} {a:Act} {w:World} (H:World→World→Prop) (t:Tr) (hm:P.follows .mixedOrders = true)
    (hs:(Region.noSelect ops && Nat.ble t.len ops.size && goodT .any ops (mark t.flat) false t (Array.replicate ops.size false)) = true)
    (h:∀ w',Ext No w w'→w'.heap.size = w.heap.size→TSerP P ops Q (H w') t a w'):(Code.region id ops true).wp P Q a w:=
  wp_drawnTP (H w.drew) t hm hs (h _ (Ext.drew w) rfl)
end
end Go.Sx
