/- Families: as many slices of one's own as a list has elements, as one chunk. -/
import Derived.Test.YtonnladboikmhaaGreatDoorSxW
set_option linter.unusedSimpArgs false
set_option linter.unusedVariables false
namespace Go.Sx
structure Rw where
  ad:Option Addr
  n:Nat
  c:Nat
  xs:List Value
def fOwn {α:Type} (f:α→Rw) (L:List α):Nat→Prop:=fun k=>∃ x ∈ L,Own (f x).ad k
def Apart {α:Type} (f:α→Rw) (x y:α):Prop:=∀ k,Own (f x).ad k→¬ Own (f y).ad k
structure Fam {α:Type} (e:TypeId) (sz:Nat) (f:α→Rw) (w:World) (L:List α):Prop where
  row:∀ x ∈ L,Row w e sz (f x).ad (f x).n (f x).c (f x).xs
  dis:L.Pairwise (Apart f)
@[reducible] def cF {α:Type} (e:TypeId) (sz:Nat) (f:α→Rw) (L:List α):Chunk:=(fOwn f L,fun w=>Fam e sz f w L)
section
variable {α:Type} {e:TypeId} {sz:Nat} {f:α→Rw} {w w' w0:World} {L L':List α} {x y:α} {S T:Nat→Prop} {l l' rest:List Chunk} {i j k:Nat}
theorem Apart.symm (h:Apart f x y):Apart f y x:=fun k h1 h2=>h k h2 h1
theorem Fam.nil:Fam e sz f w []:=⟨fun x h=>by simp at h,List.Pairwise.nil⟩
theorem Fam.cons_iff:Fam e sz f w (x :: L) ↔ Row w e sz (f x).ad (f x).n (f x).c (f x).xs∧(∀ y ∈ L,Apart f x y)∧Fam e sz f w L:=by
  constructor
  · intro h
    have:=List.pairwise_cons.1 h.dis
    exact ⟨h.row x List.mem_cons_self,this.1,fun y hy=>h.row y (List.mem_cons_of_mem _ hy),this.2⟩
  rintro ⟨h1,h2,h3⟩
  refine ⟨fun y hy=>?_,List.pairwise_cons.2 ⟨h2,h3.dis⟩⟩
  rcases List.mem_cons.1 hy with rfl | hy
  · exact h1
  exact h3.row y hy
theorem Fam.perm (h:Fam e sz f w L) (p:L'.Perm L):Fam e sz f w L':=⟨fun x hx=>h.row x (p.mem_iff.1 hx),p.symm.pairwise h.dis fun h=>h.symm⟩
theorem fOwn.perm (p:L'.Perm L) {k:Nat} (h:fOwn f L' k):fOwn f L k:=by
  obtain ⟨x,hx,hk⟩:=h
  exact ⟨x,p.mem_iff.1 hx,hk⟩
theorem fOwn_cons {k:Nat}:fOwn f (x :: L) k ↔ Own (f x).ad k∨fOwn f L k:=by
  unfold fOwn
  simp
theorem Fam.ext (h:Fam e sz f w L) (X:Ext S w w') (hd:∀ k,fOwn f L k→¬ S k):Fam e sz f w' L:=
  ⟨fun x hx=>(h.row x hx).ext X fun k hk hs=>hd k ⟨x,hx,hk⟩ hs,h.dis⟩
theorem Fam.ck (h:Fam e sz f w L):Ck (fOwn f L) (fun w=>Fam e sz f w L) w:=fun w' X=>h.ext X fun k hk hn=>hn hk
theorem Fam.lt (h:Fam e sz f w L) {k:Nat} (hk:fOwn f L k):k < w.heap.size:=by
  obtain ⟨x,hx,hk⟩:=hk
  exact (h.row x hx).lt k hk
theorem Fam.get (h:Fam e sz f w L) {i:Nat} (hx:L[i]? = some x):Row w e sz (f x).ad (f x).n (f x).c (f x).xs:=h.row x (List.mem_of_getElem? hx)
theorem Fam.map {β:Type} {g:β→Rw} {M:List β} (h:Fam e sz f w L) (e1:M.map g = L.map f):Fam e sz g w M:=by
  refine ⟨fun y hy=>?_,?_⟩
  · have:g y ∈ L.map f:=by rw [← e1];exact List.mem_map_of_mem hy
    obtain ⟨x,hx,hxy⟩:=List.mem_map.1 this
    rw [← hxy]
    exact h.row x hx
  have h2:(L.map f).Pairwise fun a b=>∀ k,Own a.ad k→¬ Own b.ad k:=List.pairwise_map.2 h.dis
  rw [← e1] at h2
  exact (List.pairwise_map.1 h2:M.Pairwise fun a b=>∀ k,Own (g a).ad k→¬ Own (g b).ad k)
theorem Hp.fam (H:Hp w0 S w l) (i:Nat) (h:cget l i = some (cF e sz f L)):Fam e sz f w L:=(H.ck _ (mem_of_cget h)).now
theorem Hp.famNil (H:Hp w0 S w l) (e:TypeId) (sz:Nat) (f:α→Rw):Hp w0 S w (cF e sz f [] :: l):=
  H.cons (Ext.refl _ _) Fam.nil.ck fun k hk=>by
    obtain ⟨x,hx,-⟩:=hk
    simp at hx
theorem Hp.add (H:Hp w0 S w l) {c:Chunk} (hk:Ck c.1 c.2 w) (ho:∀ k,c.1 k→k < w.heap.size∧(k < w0.heap.size→S k)) (hd:∀ d ∈ l,∀ k,c.1 k→¬ d.1 k):Hp w0 S w (c :: l):=by
  refine ⟨H.ext,fun i j a d ha hd' hij k hka hkd=>?_,fun a ha k hka=>?_,fun a ha=>?_⟩
  · cases i with
    | zero=>
      cases j with
      | zero=>exact hij rfl
      | succ j=>
        simp at ha hd'
        subst ha
        exact hd d (List.mem_of_getElem? hd') k hka hkd
    | succ i=>
      cases j with
      | zero=>
        simp at ha hd'
        subst hd'
        exact hd a (List.mem_of_getElem? ha) k hkd hka
      | succ j=>exact H.dis i j a d (by simpa using ha) (by simpa using hd') (fun h=>hij (by rw [h])) k hka hkd
  · rcases List.mem_cons.1 ha with rfl | ha
    · exact ho k hka
    exact H.own a ha k hka
  rcases List.mem_cons.1 ha with rfl | ha
  · exact hk
  exact H.ck a ha
theorem Hp.famPut {ad:Option Addr} {n c:Nat} {xs:List Value} (H:Hp w0 S w l) (i j:Nat) (hi:cget l i = some (cF e sz f L)) (hj:cget l j = some (cR e sz ad n c xs)) (hf:f x = ⟨ad,n,c,xs⟩) (hij:Nat.beq i j = false) (os:List Nat) (hn:nodup (i :: j :: os) = true) (hr:cpick l os = some rest) (hp:L'.Perm (x :: L)) :
    Hp w0 S w (cF e sz f L' :: rest):=by
  have M:=H.merge i j hi hj os hn hr
  have hF:=H.fam i hi
  have hR:=H.row j hj
  have hdis:∀ k,fOwn f L k→¬ Own ad k:=fun k h1 h2=>by
    rw [cget_eq] at hi hj
    exact H.dis i j _ _ hi hj (fun h=>by subst h;simp at hij) k h1 h2
  have fam':Fam e sz f w L':=(Fam.cons_iff.2 ⟨by rw [hf];exact hR,fun y hy k h1 h2=>hdis k ⟨y,hy,h2⟩ (by rw [hf] at h1;exact h1),hF⟩).perm hp
  have hiff:∀ k,fOwn f L' k→fOwn f L k∨Own ad k:=fun k hk=>by
    have:=fOwn.perm hp hk
    rw [fOwn_cons,hf] at this
    exact this.symm
  exact M.eff (d:=cF e sz f L') 0 rfl (Ext.refl _ _) fam'.ck (fun k hk=>⟨fam'.lt hk,.inl (hiff k hk)⟩) rfl
theorem Hp.famTake (H:Hp w0 S w l) (i:Nat) (hi:cget l i = some (cF e sz f L)) (hp:L.Perm (x :: L')) (hs:cset l i (cF e sz f L') = some l') :
    Hp w0 S w (cR e sz (f x).ad (f x).n (f x).c (f x).xs :: l'):=by
  have hF:=H.fam i hi
  have hF2:=Fam.cons_iff.1 (hF.perm hp.symm)
  obtain ⟨hR,ha,hF'⟩:=hF2
  have hsub:∀ k,fOwn f L' k→fOwn f L k:=fun k hk=>fOwn.perm hp.symm (fOwn_cons.2 (.inr hk))
  have hx:∀ k,Own (f x).ad k→fOwn f L k:=fun k hk=>fOwn.perm hp.symm (fOwn_cons.2 (.inl hk))
  have H2:Hp w0 S w l':=H.eff (d:=cF e sz f L') i hi (Ext.refl _ _) hF'.ck (fun k hk=>⟨hF'.lt hk,.inl (hsub k hk)⟩) hs
  have hm:=mem_of_cget hi
  refine H2.add hR.ck (fun k hk=>H.own _ hm k (hx k hk)) fun d hd k h1 h2=>?_
  rw [cset_eq hs] at hd
  obtain ⟨n,hn⟩:=List.mem_iff_getElem?.1 hd
  rw [List.getElem?_set] at hn
  split at hn
  · split at hn
    · cases hn
      obtain ⟨y,hy,hyk⟩:=h2
      exact ha y hy k h1 hyk
    cases hn
  rename_i hne
  rw [cget_eq] at hi
  exact H.dis i n _ d hi hn hne k (hx k h1) h2
end
/-! one cell of an element of a row -/
section
variable {nz:Sz} {P:Program} {w:World} {t e:TypeId} {n sz:Nat} {l:List (Nat × Value)} {a:Act} {o:Oper} {x y:Operand} {v:Value} {α:Type} {enc:α→List Value}
theorem flat_setF (he:∀ x,(enc x).length = sz):∀ {xs:List α} {k j:Nat} {r r':α} {v:Value},xs[k]? = some r→j < sz→enc r' = (enc r).set j v→(xs.flatMap enc).set (k * sz + j) v = (xs.set k r').flatMap enc
  | [],k,j,r,r',v,h,_,_=>by simp at h
  | y :: t,0,j,r,r',v,h,hj,hr=>by
    simp at h
    subst h
    rw [List.flatMap_cons,Nat.zero_mul,Nat.zero_add,List.set_append_left _ _ (by rw [he];exact hj),← hr]
    rfl
  | y :: t,k + 1,j,r,r',v,h,hj,hr=>by
    have ih:=flat_setF he (xs:=t) (k:=k) (by simpa using h) hj hr
    rw [List.flatMap_cons,List.set_append_right _ _ (by rw [he,Nat.add_mul];omega),he,show (k + 1) * sz + j - sz = k * sz + j from by rw [Nat.add_mul];omega,ih]
    rfl
theorem x_storeRowF {z:Value} {by_ m c k j:Nat} {ad:Option Addr} {xs:List α} {r r':α} (hT:Sl nz l a) (hop:o.op = .store t x y) (hti:TI P t z 1 by_) (hx:opnd l x = some (.pointer (some ⟨ab ad,ao ad + k * sz + j,none⟩))) (hy:opnd l y = some v)
    (hv:v.oneCell' = true) (he:∀ x,(enc x).length = sz) (h:Row w e sz ad m c (xs.flatMap enc)) (hr:xs[k]? = some r) (hm:m = xs.length) (hj:j < sz) (hr':enc r' = (enc r).set j v) :
    ∃ w',(execOp a.eval o).run P w = .ok .skip w'∧Row w' e sz ad m c ((xs.set k r').flatMap enc)∧Ext (Own ad) w w'∧w'.heap.size = w.heap.size:=by
  have hl:=h.len
  have hk:=(List.getElem?_eq_some_iff.1 hr).1
  have hlt:k * sz + j < m * sz:=by
    have:(k + 1) * sz≤m * sz:=Nat.mul_le_mul_right _ (by omega)
    rw [Nat.add_mul] at this
    omega
  rcases h.own with ⟨-,h0,-⟩ | ⟨junk,ha,hB,hc,h1,h2⟩
  · omega
  have hao:ao ad = 0:=by rw [ha];rfl
  rw [hao,Nat.zero_add] at hx
  obtain ⟨w',hr9,hB',hE,hs⟩:=x_store1 hT hop hti hx hy hv hB (by simp only [List.length_append];omega)
  rw [List.set_append_left _ _ (by omega),flat_setF he hr hj hr'] at hB'
  refine ⟨w',hr9,⟨?_,.inr ⟨junk,ha,hB',?_,h1,h2⟩⟩,?_,hs⟩
  · rw [← flat_setF he hr hj hr',List.length_set,hl]
  · rw [← flat_setF he hr hj hr']
    simpa using hc
  have:Own ad = One (ab ad):=by rw [ha];exact Own.one
  rw [this]
  exact hE
end
end Go.Sx
