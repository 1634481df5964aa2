/- A region that draws its order, walked in ONE order of the prover's choice (a script): what may be taken ahead of time is taken, what acts is carried out where nothing else may come up. After the kit's Orders and OrdersHeld, with a condition H that needs to be kept only as long as a load still waits. -/
import Derived.Test.YtonnladboikmhaaGreatDoorSxA
import Derived.OrdersHeld
namespace Go.Sx
section
variable {P:Program} {ops:Array Oper} {Q:Exit→Act→World→Prop} {md:Region.Mode} {H:World→Prop} {kp:Nat→Bool}
def AnyK (P:Program) (md:Region.Mode) (ops:Array Oper) (Q:Exit→Act→World→Prop) (H:World→Prop) (kp:Nat→Bool):Nat→Array Bool→Act→World→Prop
  | 0,listed,a,w=>Region.ready md ops listed = []∧Q .normal a w
  | fuel + 1,listed,a,w=>
    (Region.ready md ops listed = []→Q .normal a w) ∧
    ∀ i ∈ Region.ready md ops listed,wpOp P ops Q i (fun a' w'=>(kp i = true→H w→H w')∧AnyK P md ops Q H kp fuel (listed.setIfInBounds i true) a' w') a w
theorem AnyK.any:∀ (fuel:Nat) (listed:Array Bool) (a:Act) (w:World),AnyK P md ops Q H kp fuel listed a w→wpAny P md ops Q fuel listed a w
  | 0,_,_,_,h=>h
  | fuel + 1,_,_,_,h=>⟨h.1,fun i hi=>wpOp_mono (fun a' w' h'=>AnyK.any fuel _ a' w' h'.2) (h.2 i hi)⟩
theorem AnyK.first {i:Nat} {oi:Oper} {v:Value} (hi:ops[i]? = some oi) (hsel:∀ (j:Nat) (o:Oper) cs b,ops[j]? = some o→o.op ≠ .select cs b)
    (hQ:∀ c a w,Q (.panic c) (a.put oi.dst v) w→Q (.panic c) a w) (D:Nat→Prop) (hD:∀ j oj,D j→ops[j]? = some oj→∃ e ∈ oj.after,Region.binds md e = true∧(e.on = i∨D e.on)) :
    ∀ (fuel:Nat) (listed:Array Bool) (a:Act) (w:World),
      (∀ j oj,ops[j]? = some oj→j ≠ i→listed.getD j true = false→(∀ e ∈ oj.after,Region.binds md e = true→e.on ≠ i)→oi.apart ops oj = true∧(¬ D j→kp j = true)) →
      (∀ j,D j→listed.getD j true = false) →
      i ∈ Region.ready md ops listed→YieldsIf P ops H oi v a→H w →
      AnyK P md ops Q H kp fuel (listed.setIfInBounds i true) (a.put oi.dst v) w→AnyK P md ops Q H kp (fuel + 1) listed a w:=by
  intro fuel
  induction fuel with
  | zero=>
    intro listed a w _ _ hr hy hS K
    refine ⟨fun h=>(by rw [h] at hr;cases hr),fun j hj=>?_⟩
    by_cases hji:j = i
    · subst hji;exact hy.wpOp hi hS ⟨fun _ h=>h,K⟩
    have:=ready_mono hj hji
    rw [K.1] at this
    cases this
  | succ fuel ih=>
    intro listed a w hfree hDl hr hy hS K
    refine ⟨fun h=>(by rw [h] at hr;cases hr),fun j hj=>?_⟩
    by_cases hji:j = i
    · subst hji;exact hy.wpOp hi hS ⟨fun _ h=>h,K⟩
    have h1:=K.2 j (ready_mono hj hji)
    obtain ⟨hjun,oj,hoj,hall⟩:=mem_ready.1 hj
    have hnot:∀ e ∈ oj.after,Region.binds md e = true→e.on ≠ i:=fun e he hb heq=>by
      have h1:=hall e he hb
      have h0:=(mem_ready.1 hr).1
      rw [heq] at h1
      rcases Nat.lt_or_ge i listed.size with h' | h'
      · simp [h'] at h0 h1;rw [h0] at h1;cases h1
      simp [Array.getElem?_eq_none h'] at h1
    have h2:=wpOp_putIf hoj (hfree j oj hoj hji hjun hnot).1 (fun cs b=>hsel i oi cs b hi) (fun cs b=>hsel j oj cs b hoj) hQ hy h1
    have hnD:¬ D j:=fun hd=>by
      obtain ⟨e,he,hb,h3⟩:=hD j oj hd hoj
      rcases h3 with h3 | h3
      · exact hnot e he hb h3
      have h4:=hall e he hb
      have h5:=hDl _ h3
      rcases Nat.lt_or_ge e.on listed.size with h' | h'
      · simp [h'] at h4 h5;rw [h5] at h4;cases h4
      simp [Array.getElem?_eq_none h'] at h4
    have hkj:=(hfree j oj hoj hji hjun hnot).2 hnD
    have hDl':∀ k,D k→(listed.setIfInBounds j true).getD k true = false:=fun k hk=>by
      have hne:j ≠ k:=fun h9=>hnD (by rw [h9];exact hk)
      rw [getD_set_ne true hne]
      exact hDl k hk
    have hfree':∀ k ok,ops[k]? = some ok→k ≠ i→(listed.setIfInBounds j true).getD k true = false →
        (∀ e ∈ ok.after,Region.binds md e = true→e.on ≠ i)→oi.apart ops ok = true∧(¬ D k→kp k = true):=fun k ok hk hki hun hno=>by
      refine hfree k ok hk hki ?_ hno
      by_cases hjk:j = k
      · subst hjk;exact hjun
      rw [getD_set_ne true hjk] at hun;exact hun
    refine wpOp_mono (fun a' w' h3=>⟨h3.2.1,ih (listed.setIfInBounds j true) a' w' hfree' hDl' (ready_mono hr (Ne.symm hji)) h3.1 (h3.2.1 hkj hS) ?_⟩) h2
    rw [Array.setIfInBounds_comm _ _ hji]
    exact h3.2.2
theorem AnyK.first0 {i:Nat} {oi:Oper} {v:Value} (hi:ops[i]? = some oi) (hsel:∀ (j:Nat) (o:Oper) cs b,ops[j]? = some o→o.op ≠ .select cs b)
    (hQ:∀ c a w,Q (.panic c) (a.put oi.dst v) w→Q (.panic c) a w) :
    ∀ (fuel:Nat) (listed:Array Bool) (a:Act) (w:World),
      (∀ j oj,ops[j]? = some oj→j ≠ i→listed.getD j true = false→(∀ e ∈ oj.after,Region.binds md e = true→e.on ≠ i)→oi.apart ops oj = true) →
      i ∈ Region.ready md ops listed→Yields P ops oi v a →
      AnyK P md ops Q H kp fuel (listed.setIfInBounds i true) (a.put oi.dst v) w→AnyK P md ops Q H kp (fuel + 1) listed a w:=by
  intro fuel
  induction fuel with
  | zero=>
    intro listed a w _ hr hy K
    refine ⟨fun h=>(by rw [h] at hr;cases hr),fun j hj=>?_⟩
    by_cases hji:j = i
    · subst hji;exact hy.wpOp hi ⟨fun _ h=>h,K⟩
    have:=ready_mono hj hji
    rw [K.1] at this
    cases this
  | succ fuel ih=>
    intro listed a w hfree hr hy K
    refine ⟨fun h=>(by rw [h] at hr;cases hr),fun j hj=>?_⟩
    by_cases hji:j = i
    · subst hji;exact hy.wpOp hi ⟨fun _ h=>h,K⟩
    have h1:=K.2 j (ready_mono hj hji)
    obtain ⟨hjun,oj,hoj,hall⟩:=mem_ready.1 hj
    have hnot:∀ e ∈ oj.after,Region.binds md e = true→e.on ≠ i:=fun e he hb heq=>by
      have h1:=hall e he hb
      have h0:=(mem_ready.1 hr).1
      rw [heq] at h1
      rcases Nat.lt_or_ge i listed.size with h' | h'
      · simp [h'] at h0 h1;rw [h0] at h1;cases h1
      simp [Array.getElem?_eq_none h'] at h1
    have h2:=wpOp_put hoj (hfree j oj hoj hji hjun hnot) (fun cs b=>hsel i oi cs b hi) (fun cs b=>hsel j oj cs b hoj) hQ hy h1
    have hfree':∀ k ok,ops[k]? = some ok→k ≠ i→(listed.setIfInBounds j true).getD k true = false →
        (∀ e ∈ ok.after,Region.binds md e = true→e.on ≠ i)→oi.apart ops ok = true:=fun k ok hk hki hun hno=>by
      refine hfree k ok hk hki ?_ hno
      by_cases hjk:j = k
      · subst hjk;exact hjun
      rw [getD_set_ne true hjk] at hun;exact hun
    refine wpOp_mono (fun a' w' h3=>⟨h3.2.1,ih (listed.setIfInBounds j true) a' w' hfree' (ready_mono hr (Ne.symm hji)) h3.1 ?_⟩) h2
    rw [Array.setIfInBounds_comm _ _ hji]
    exact h3.2.2
end
/-! ### Scripts -/
inductive How where
  | take | held | run | keep
def How.kept:How→Bool
  | .run=>false
  | _=>true
def Ser (P:Program) (ops:Array Oper) (Q:Exit→Act→World→Prop) (H:World→Prop):List (Nat × How)→Act→World→Prop
  | [],a,w=>Q .normal a w
  | (i,.take) :: s,a,w=>∃ o v,ops[i]? = some o∧Yields P ops o v a∧Ser P ops Q H s (a.put o.dst v) w
  | (i,.held) :: s,a,w=>∃ o v,ops[i]? = some o∧YieldsIf P ops H o v a∧H w∧Ser P ops Q H s (a.put o.dst v) w
  | (i,.run) :: s,a,w=>wpOp P ops Q i (Ser P ops Q H s) a w
  | (i,.keep) :: s,a,w=>wpOp P ops Q i (fun a' w'=>(H w→H w')∧Ser P ops Q H s a' w') a w
def mark (s:List (Nat × How)) (i:Nat):Bool:=(s.find? fun p=>Nat.beq p.1 i).elim false fun p=>p.2.kept
def downs (md:Region.Mode) (ops:Array Oper) (listed:Array Bool) (i:Nat):Array Bool:=
  ops.foldl (fun d oj=>d.push (!listed.getD d.size true && oj.after.any fun e=>Region.binds md e && (e.on == i || d.getD e.on false))) #[]
def downOk (md:Region.Mode) (ops:Array Oper) (listed d:Array Bool) (i:Nat):Bool:=
  (List.range d.size).all fun j=>!d.getD j false || (!listed.getD j true && match ops[j]? with
    | some oj=>oj.after.any fun e=>Region.binds md e && (e.on == i || d.getD e.on false)
    | none=>true)
def waits (md:Region.Mode) (ops:Array Oper) (kp:Nat→Bool) (listed:Array Bool) (i:Nat):Bool:=
  downOk md ops listed (downs md ops listed i) i && (List.range ops.size).all fun j=>j == i || listed.getD j true || kp j || (downs md ops listed i).getD j false
def good (md:Region.Mode) (ops:Array Oper) (kp:Nat→Bool):List (Nat × How)→Array Bool→Bool
  | [],listed=>(Region.ready md ops listed).isEmpty
  | (i,.take) :: s,listed=>(Region.ready md ops listed).contains i && Region.free md ops listed i && good md ops kp s (listed.setIfInBounds i true)
  | (i,.held) :: s,listed=>(Region.ready md ops listed).contains i && Region.free md ops listed i && waits md ops kp listed i && good md ops kp s (listed.setIfInBounds i true)
  | (i,.run) :: s,listed=>(match Region.ready md ops listed with | [j]=>Nat.beq i j | _=>false) && !kp i && good md ops kp s (listed.setIfInBounds i true)
  | (i,.keep) :: s,listed=>(match Region.ready md ops listed with | [j]=>Nat.beq i j | _=>false) && good md ops kp s (listed.setIfInBounds i true)
section
variable {P:Program} {ops:Array Oper} {Q:Exit→Act→World→Prop} {md:Region.Mode} {H:World→Prop} {kp:Nat→Bool}
theorem waits_spec {listed:Array Bool} {i:Nat} (h:waits md ops kp listed i = true) (j:Nat) (oj:Oper)
    (hj:ops[j]? = some oj) (hne:j ≠ i) (hun:listed.getD j true = false) (hno:¬ (downs md ops listed i).getD j false = true):kp j = true:=by
  simp only [waits,Bool.and_eq_true,List.all_eq_true,List.mem_range] at h
  have h1:=h.2 j (Array.getElem?_eq_some_iff.1 hj).1
  simp only [Bool.or_eq_true,beq_iff_eq,hne,false_or,hun,Bool.false_eq_true] at h1
  exact h1.resolve_right hno
theorem downs_spec {listed:Array Bool} {i:Nat} (h:waits md ops kp listed i = true) (j:Nat) (hd:(downs md ops listed i).getD j false = true) :
    listed.getD j true = false∧∀ oj,ops[j]? = some oj→∃ e ∈ oj.after,Region.binds md e = true∧(e.on = i∨(downs md ops listed i).getD e.on false = true):=by
  simp only [waits,Bool.and_eq_true] at h
  have h1:=h.1
  generalize downs md ops listed i = d at *
  have hlt:j < d.size:=by
    rcases Nat.lt_or_ge j d.size with h2 | h2
    · exact h2
    simp [Array.getElem?_eq_none h2] at hd
  have h2:=List.all_eq_true.1 h1 j (List.mem_range.2 hlt)
  simp only [hd,Bool.not_true,Bool.false_or,Bool.and_eq_true,Bool.not_eq_true'] at h2
  refine ⟨h2.1,fun oj hoj=>?_⟩
  have h3:=h2.2
  simp only [hoj] at h3
  obtain ⟨e,he,hb⟩:=Array.any_eq_true'.1 h3
  simp only [Bool.and_eq_true,Bool.or_eq_true,beq_iff_eq] at hb
  exact ⟨e,he,hb.1,hb.2⟩
theorem Ser.any (hs:Region.noSelect ops = true) (hQ:∀ c a w d v,Q (.panic c) (a.put d v) w→Q (.panic c) a w) :
    ∀ (s:List (Nat × How)) (fuel:Nat) (listed:Array Bool) (a:Act) (w:World),s.length≤fuel→good md ops kp s listed = true →
      Ser P ops Q H s a w→AnyK P md ops Q H kp fuel listed a w:=by
  intro s
  induction s with
  | nil=>
    intro fuel listed a w _ hg hser
    have hr:Region.ready md ops listed = []:=by simpa [good] using hg
    cases fuel with
    | zero=>exact ⟨hr,hser⟩
    | succ fuel=>exact ⟨fun _=>hser,by rw [hr];simp⟩
  | cons p s ih=>
    intro fuel listed a w hlen hg hser
    obtain ⟨i,how⟩:=p
    cases fuel with
    | zero=>simp at hlen
    | succ fuel=>
      have hlen':s.length≤fuel:=by simpa using hlen
      cases how with
      | take=>
        obtain ⟨o,v,ho,hy,hrest⟩:=hser
        simp only [good,Bool.and_eq_true] at hg
        obtain ⟨⟨hr,hf⟩,hg'⟩:=hg
        exact AnyK.first0 ho (Region.noSelect_spec hs) (fun c a w=>hQ c a w _ _) fuel listed a w (Region.free_spec ho hf) (by simpa using hr) hy
          (ih fuel _ _ _ hlen' hg' hrest)
      | held=>
        obtain ⟨o,v,ho,hy,hH,hrest⟩:=hser
        simp only [good,Bool.and_eq_true] at hg
        obtain ⟨⟨⟨hr,hf⟩,hk⟩,hg'⟩:=hg
        exact AnyK.first ho (Region.noSelect_spec hs) (fun c a w=>hQ c a w _ _) (fun j=>(downs md ops listed i).getD j false = true) (fun j oj hd=>(downs_spec hk j hd).2 oj) fuel listed a w
          (fun j oj hj hne hun hno=>⟨Region.free_spec ho hf j oj hj hne hun hno,waits_spec hk j oj hj hne hun⟩) (fun j hd=>(downs_spec hk j hd).1) (by simpa using hr) hy hH
          (ih fuel _ _ _ hlen' hg' hrest)
      | run=>
        simp only [good,Bool.and_eq_true,Bool.not_eq_true'] at hg
        obtain ⟨⟨hr,hk⟩,hg'⟩:=hg
        have hri:Region.ready md ops listed = [i]:=by
          split at hr
          · rename_i j hj
            rw [hj,Nat.eq_of_beq_eq_true hr]
          cases hr
        refine ⟨fun h=>(by rw [hri] at h;cases h),fun j hj=>?_⟩
        rw [hri,List.mem_singleton] at hj
        subst hj
        exact wpOp_mono (fun a' w' h=>⟨(fun h' _=>by rw [hk] at h';cases h'),ih fuel _ _ _ hlen' hg' h⟩) hser
      | keep=>
        simp only [good,Bool.and_eq_true] at hg
        obtain ⟨hr,hg'⟩:=hg
        have hri:Region.ready md ops listed = [i]:=by
          split at hr
          · rename_i j hj
            rw [hj,Nat.eq_of_beq_eq_true hr]
          cases hr
        refine ⟨fun h=>(by rw [hri] at h;cases h),fun j hj=>?_⟩
        rw [hri,List.mem_singleton] at hj
        subst hj
        exact wpOp_mono (fun a' w' h=>⟨fun _=>h.1,ih fuel _ _ _ hlen' hg' h.2⟩) hser
def Calm (Q:Exit→Act→World→Prop):Exit→Act→World→Prop
  | .panic _,_,_=>False
  | e,a,w=>Q e a w
theorem Calm.imp:∀ (e:Exit) (a:Act) (w:World),Calm Q e a w→Q e a w:=fun e a w h=>by
  cases e <;> first | exact h | exact (h:False).elim
theorem wp_drawn {id:Nat} {a:Act} {w:World} (H:World→Prop) (s:List (Nat × How)) (hm:P.follows .mixedOrders = true)
    (hs:(Region.noSelect ops && Nat.ble s.length ops.size && good .any ops (mark s) s (Array.replicate ops.size false)) = true)
    (h:Ser P ops (Calm Q) H s a w.drew):(Code.region id ops true).wp P Q a w:=by
  simp only [Bool.and_eq_true] at hs
  exact Code.wp_mono Calm.imp (wp_region_any hm (AnyK.any _ _ _ _ (Ser.any hs.1.1 (fun c a w d v h=>h) s _ _ _ _ (Nat.le_of_ble_eq_true hs.1.2) hs.2 h)))
/-! a fork: two operations that act may both come next -/
theorem AnyK.le:∀ (f g:Nat) (listed:Array Bool) (a:Act) (w:World),f≤g→AnyK P md ops Q H kp f listed a w→AnyK P md ops Q H kp g listed a w
  | 0,0,_,_,_,_,h=>h
  | 0,g + 1,listed,a,w,_,h=>⟨fun _=>h.2,fun i hi=>by rw [h.1] at hi;cases hi⟩
  | f + 1,0,_,_,_,hfg,_=>by omega
  | f + 1,g + 1,listed,a,w,hfg,h=>⟨h.1,fun i hi=>wpOp_mono (fun a' w' h'=>⟨h'.1,AnyK.le f g _ _ _ (by omega) h'.2⟩) (h.2 i hi)⟩
end
/-! a tree of forks: wherever several that act may come next, each of them is walked -/
inductive Tr where
  | leaf (s:List (Nat × How))
  | node (s:List (Nat × How)) (l r:Tr)
def Tr.flat:Tr→List (Nat × How)
  | .leaf s=>s
  | .node s l r=>s++(l.flat++r.flat)
def Tr.len:Tr→Nat
  | .leaf s=>s.length
  | .node s l r=>s.length + max l.len r.len
def Tr.heads:Tr→List Nat
  | .leaf []=>[]
  | .leaf ((i,_) :: _)=>[i]
  | .node [] l r=>l.heads++r.heads
  | .node ((i,_) :: _) _ _=>[i]
def lone1 (l:List Nat) (i:Nat):Bool:=match l with
  | [j]=>Nat.beq i j
  | _=>false
theorem lone1_eq {l:List Nat} {i:Nat} (h:lone1 l i = true):l = [i]:=by
  unfold lone1 at h
  split at h
  · rw [Nat.eq_of_beq_eq_true h]
  cases h
def goodS (md:Region.Mode) (ops:Array Oper) (kp:Nat→Bool):Bool→List (Nat × How)→Array Bool→Option (Array Bool)
  | _,[],listed=>some listed
  | ex,(i,.take) :: s,listed=>if !ex && (Region.ready md ops listed).contains i && Region.free md ops listed i then goodS md ops kp false s (listed.setIfInBounds i true) else none
  | ex,(i,.held) :: s,listed=>if !ex && (Region.ready md ops listed).contains i && Region.free md ops listed i && waits md ops kp listed i then goodS md ops kp false s (listed.setIfInBounds i true) else none
  | ex,(i,.run) :: s,listed=>if (ex || lone1 (Region.ready md ops listed) i) && !kp i then goodS md ops kp false s (listed.setIfInBounds i true) else none
  | ex,(i,.keep) :: s,listed=>if (ex || lone1 (Region.ready md ops listed) i) then goodS md ops kp false s (listed.setIfInBounds i true) else none
def goodT (md:Region.Mode) (ops:Array Oper) (kp:Nat→Bool):Bool→Tr→Array Bool→Bool
  | ex,.leaf s,listed=>match goodS md ops kp ex s listed with
    | some l2=>(!ex || !s.isEmpty) && (Region.ready md ops l2).isEmpty
    | none=>false
  | true,.node [] l r,listed=>goodT md ops kp true l listed && goodT md ops kp true r listed
  | ex,.node s l r,listed=>match goodS md ops kp ex s listed with
    | some l2=>!(Region.ready md ops l2).isEmpty && (Region.ready md ops l2).all (fun i=>(l.heads++r.heads).contains i) && goodT md ops kp true l l2 && goodT md ops kp true r l2
    | none=>false
section
variable {P:Program} {ops:Array Oper} {Q Q1 Q2:Exit→Act→World→Prop} {md:Region.Mode} {H:World→Prop} {kp:Nat→Bool}
theorem oper_wp_q {o:Oper} {a:Act} {w:World} {K:Act→World→Prop} (h:∀ c a w,Q1 (.panic c) a w→Q2 (.panic c) a w) (hl:LetsOut Q1→LetsOut Q2) (hh:o.wp P a w K Q1):o.wp P a w K Q2:=by
  unfold Oper.wp at *
  generalize (execOp a.eval o).run P w = r at *
  cases r with
  | ok n w'=>
    cases n <;> simp only [Oper.upon] at hh ⊢ <;>
      first
        | exact hh
        | exact Calls.mono hh (fun e w'' he=>by cases e <;> first | exact he | exact h _ _ _ he | exact hl he)
  | halt x w'=>cases x <;> simp only [Oper.upon] at hh ⊢ <;> first | exact hh | exact h _ _ _ hh
theorem wpOp_q {i:Nat} {a:Act} {w:World} {K:Act→World→Prop} (h:∀ c a w,Q1 (.panic c) a w→Q2 (.panic c) a w) (hl:LetsOut Q1→LetsOut Q2) (hh:wpOp P ops Q1 i K a w):wpOp P ops Q2 i K a w:=by
  unfold wpOp at *
  split
  · rename_i ho;simpa [ho] using hh
  rename_i o ho
  simp only [ho] at hh
  split
  · rename_i hw;simp only [hw,if_true] at hh;exact hh.imp (oper_wp_q h hl) fun h2=>⟨h2.1,hl h2.2⟩
  rename_i hw;simpa [hw] using hh
structure Tame (Q1:Exit→Act→World→Prop):Prop where
  panic:∀ c a w,Q1 (.panic c) a w→False
theorem heads_len:∀ {t:Tr} {i:Nat},i ∈ t.heads→1≤t.len
  | .leaf [],i,h=>by simp [Tr.heads] at h
  | .leaf (_ :: _),i,_=>by simp [Tr.len]
  | .node [] l r,i,h=>by
    simp only [Tr.heads,List.mem_append] at h
    have:1≤max l.len r.len:=by
      rcases h with h | h
      · have:=heads_len h;omega
      have:=heads_len h;omega
    simpa [Tr.len] using this
  | .node (_ :: _) l r,i,_=>by simp only [Tr.len,List.length_cons];omega
end
end Go.Sx
