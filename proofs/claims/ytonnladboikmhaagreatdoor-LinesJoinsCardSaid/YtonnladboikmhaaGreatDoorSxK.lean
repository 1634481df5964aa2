/- A heap as a list of chunks: each has blocks of its own, and what it says holds as long as these stay. -/
import Derived.Test.YtonnladboikmhaaGreatDoorSxJ
set_option linter.unusedSimpArgs false
set_option linter.unusedVariables false
namespace Go.Sx
def Ck (F:Nat→Prop) (p:World→Prop) (w:World):Prop:=∀ w',Ext (fun k=>¬ F k) w w'→p w'
section
variable {F G S T:Nat→Prop} {p q:World→Prop} {w w' w0:World} {b:Nat} {e:TypeId} {cs:List Value}
theorem Ck.now (h:Ck F p w):p w:=h w (Ext.refl _ _)
theorem Ck.ext (h:Ck F p w) (x:Ext S w w') (hd:∀ k,k < w.heap.size→F k→¬ S k):Ck F p w':=fun w'' y=>
  h w'' ((x.mono (T:=fun k=>¬ F k) fun k hk hs hf=>hd k hk hf hs).trans y fun _ _ h=>h)
theorem Ck.ext_no (h:Ck F p w) (x:Ext No w w'):Ck F p w':=h.ext x fun k _ _=>not_No k
theorem Ck.sub (h:Ck F p w) (hs:∀ k,F k→G k):Ck G p w:=fun w' x=>h w' (x.mono fun k _ hg hf=>hg (hs k hf))
theorem Ck.mono (h:Ck F p w) (hp:∀ w,p w→q w):Ck F q w:=fun w' x=>hp w' (h w' x)
theorem Ck.and (h:Ck F p w) (k:Ck G q w):Ck (fun i=>F i∨G i) (fun w=>p w∧q w) w:=fun w' x=>
  ⟨h w' (x.mono fun i _ hn hf=>hn (.inl hf)),k w' (x.mono fun i _ hn hg=>hn (.inr hg))⟩
theorem Ck.pure {c:Prop} (h:c):Ck F (fun _=>c) w:=fun _ _=>h
theorem Blk.ck (h:Blk w b cs e):Ck (One b) (fun w=>Blk w b cs e) w:=fun w' x=>h.ext x fun hn=>hn rfl
theorem Row.ck {sz n c:Nat} {ad:Option Addr} {xs:List Value} (h:Row w e sz ad n c xs):Ck (Own ad) (fun w=>Row w e sz ad n c xs) w:=fun w' x=>h.ext x fun k hk hn=>hn hk
theorem Sv.ck {m sz:Nat} {ad:Option Addr} {vs:List Value} (h:Sv w ad m sz vs) (hf:0 < m→F (ab ad)):Ck F (fun w=>Sv w ad m sz vs) w:=fun w' x=>h.ext x fun h0 hn=>hn (hf h0)
def Rest (w:World) (S:Nat→Prop):Nat→Prop:=fun k=>k < w.heap.size∧¬ S k
def Ro (w:World) (S:Nat→Prop) (p:World→Prop):Prop:=Ck (Rest w S) p w
theorem Ro.at (h:Ro w0 S p) (x:Ext S w0 w):p w:=h w (x.mono fun k hk hs hr=>hr.2 hs)
theorem Ro.of (h:∀ w',Ext No w w'→p w'):Ro w No p:=fun w' x=>h w' (x.mono fun k hk hn=>hn ⟨hk,not_No k⟩)
theorem Ro.mono (h:Ro w S p) (hp:∀ w,p w→q w):Ro w S q:=Ck.mono h hp
end
abbrev Chunk:=(Nat→Prop) × (World→Prop)
@[reducible] def cB (b:Nat) (cs:List Value) (e:TypeId):Chunk:=(One b,fun w=>Blk w b cs e)
@[reducible] def cR (e:TypeId) (sz:Nat) (ad:Option Addr) (n c:Nat) (xs:List Value):Chunk:=(Own ad,fun w=>Row w e sz ad n c xs)
def cget:List Chunk→Nat→Option Chunk
  | [],_=>none
  | c :: _,0=>some c
  | _ :: l,i + 1=>cget l i
theorem cget_eq:∀ (l:List Chunk) (i:Nat),cget l i = l[i]?
  | [],i=>by simp [cget]
  | c :: l,0=>by simp [cget]
  | c :: l,i + 1=>by simp [cget,cget_eq l i]
def cset:List Chunk→Nat→Chunk→Option (List Chunk)
  | [],_,_=>none
  | _ :: l,0,d=>some (d :: l)
  | c :: l,i + 1,d=>match cset l i d with
    | some m=>some (c :: m)
    | none=>none
theorem cset_eq:∀ {l:List Chunk} {i:Nat} {d:Chunk} {m:List Chunk},cset l i d = some m→m = l.set i d
  | [],i,d,m,h=>by simp [cset] at h
  | c :: l,0,d,m,h=>by simp [cset] at h;subst h;rfl
  | c :: l,i + 1,d,m,h=>by
    simp only [cset] at h
    split at h
    · rename_i m' h'
      simp only [Option.some.injEq] at h
      subst h
      rw [cset_eq h']
      rfl
    cases h
def cpick (l:List Chunk):List Nat→Option (List Chunk)
  | []=>some []
  | i :: r=>match cget l i,cpick l r with
    | some c,some m=>some (c :: m)
    | _,_=>none
theorem cpick_get {l:List Chunk}:∀ {ks:List Nat} {m:List Chunk},cpick l ks = some m→∀ (j:Nat) c,m[j]? = some c→∃ i,ks[j]? = some i∧l[i]? = some c
  | [],m,h,j,c,hc=>by simp [cpick] at h;subst h;simp at hc
  | k :: r,m,h,j,c,hc=>by
    simp only [cpick] at h
    split at h
    · rename_i d m' h1 h2
      simp only [Option.some.injEq] at h
      subst h
      cases j with
      | zero=>simp at hc;subst hc;exact ⟨k,rfl,by rw [← cget_eq];exact h1⟩
      | succ j=>
        obtain ⟨i,h3,h4⟩:=cpick_get h2 j c (by simpa using hc)
        exact ⟨i,by simpa using h3,h4⟩
    cases h
def cjoin:List Chunk→List Chunk→Option (List Chunk)
  | [],m=>some m
  | c :: l,m=>match cjoin l m with
    | some r=>some (c :: r)
    | none=>none
theorem cjoin_eq:∀ {l m r:List Chunk},cjoin l m = some r→r = l++m
  | [],m,r,h=>by simp [cjoin] at h;exact h.symm
  | c :: l,m,r,h=>by
    simp only [cjoin] at h
    split at h
    · rename_i r' h'
      simp only [Option.some.injEq] at h
      subst h
      rw [cjoin_eq h']
      rfl
    cases h
def notIn (i:Nat):List Nat→Bool
  | []=>true
  | j :: r=>(!Nat.beq i j) && notIn i r
def nodup:List Nat→Bool
  | []=>true
  | i :: r=>notIn i r && nodup r
theorem notIn_spec {i:Nat}:∀ {l:List Nat},notIn i l = true→∀ (j:Nat),l[j]? ≠ some i
  | [],_,j=>by simp
  | k :: r,h,j=>by
    simp only [notIn,Bool.and_eq_true,Bool.not_eq_true'] at h
    cases j with
    | zero=>intro hj;simp at hj;subst hj;simp at h
    | succ j=>simpa using notIn_spec h.2 j
theorem nodup_spec:∀ {l:List Nat},nodup l = true→∀ (a b i:Nat),l[a]? = some i→l[b]? = some i→a = b
  | [],_,a,b,i,ha,_=>by simp at ha
  | k :: r,h,a,b,i,ha,hb=>by
    simp only [nodup,Bool.and_eq_true] at h
    cases a with
    | zero=>
      cases b with
      | zero=>rfl
      | succ b=>simp at ha;subst ha;exact absurd (by simpa using hb) (notIn_spec h.1 b)
    | succ a=>
      cases b with
      | zero=>simp at hb;subst hb;exact absurd (by simpa using ha) (notIn_spec h.1 a)
      | succ b=>rw [nodup_spec h.2 a b i (by simpa using ha) (by simpa using hb)]
def Dis (l:List Chunk):Prop:=∀ (i j:Nat) c d,l[i]? = some c→l[j]? = some d→i ≠ j→∀ k,c.1 k→¬ d.1 k
def foot (l:List Chunk):Nat→Prop:=fun k=>∃ c ∈ l,c.1 k
structure Hp (w0:World) (S:Nat→Prop) (w:World) (l:List Chunk):Prop where
  ext:Ext S w0 w
  dis:Dis l
  own:∀ c ∈ l,∀ k,c.1 k→k < w.heap.size∧(k < w0.heap.size→S k)
  ck:∀ c ∈ l,Ck c.1 c.2 w
section
variable {w0 w w' u:World} {S T:Nat→Prop} {l m l' pr rest post:List Chunk} {c d:Chunk} {b:Nat} {cs cs':List Value} {e:TypeId} {p q:World→Prop} {i j:Nat}
theorem mem_of_cget (h:cget l i = some c):c ∈ l:=List.mem_of_getElem? (by rw [← cget_eq];exact h)
theorem Hp.start (S:Nat→Prop) (w:World):Hp w S w []:=⟨Ext.refl _ _,fun i j c d h=>by simp at h,fun c h=>by simp at h,fun c h=>by simp at h⟩
theorem Hp.pure (H:Hp w0 S w l) (x:Ext No w w'):Hp w0 S w' l:=
  ⟨H.ext.step x,H.dis,fun c hc k hk=>⟨Nat.lt_of_lt_of_le (H.own c hc k hk).1 x.size,(H.own c hc k hk).2⟩,fun c hc=>(H.ck c hc).ext_no x⟩
theorem Hp.cons (H:Hp w0 S w l) (x:Ext No w w') (hk:Ck c.1 c.2 w') (ho:∀ k,c.1 k→w.heap.size≤k∧k < w'.heap.size):Hp w0 S w' (c :: l):=by
  have H':=H.pure x
  have hz:=H.ext.size
  refine ⟨H'.ext,fun i j a d ha hd hij k hka hkd=>?_,fun a ha k hka=>?_,fun a ha=>?_⟩
  · cases i with
    | zero=>
      cases j with
      | zero=>exact hij rfl
      | succ j=>
        simp at ha hd
        subst ha
        have:=(H.own d (List.mem_of_getElem? hd) k hkd).1
        have:=(ho k hka).1
        omega
    | succ i=>
      cases j with
      | zero=>
        simp at ha hd
        subst hd
        have:=(H.own a (List.mem_of_getElem? ha) k hka).1
        have:=(ho k hkd).1
        omega
      | succ j=>exact H.dis i j a d (by simpa using ha) (by simpa using hd) (fun h=>hij (by rw [h])) k hka hkd
  · rcases List.mem_cons.1 ha with rfl | ha
    · exact ⟨(ho k hka).2,fun h=>by have:=(ho k hka).1;omega⟩
    exact H'.own a ha k hka
  rcases List.mem_cons.1 ha with rfl | ha
  · exact hk
  exact H'.ck a ha
theorem Hp.new (H:Hp w0 S w l) (n:New w b w' cs e):Hp w0 S w' (cB b cs e :: l):=
  H.cons n.ext n.blk.ck fun k hk=>by
    have h1:k = b:=hk
    have h2:=n.at_
    have h3:=n.size
    omega
theorem Hp.blk (H:Hp w0 S w l) (i:Nat) (h:cget l i = some (cB b cs e)):Blk w b cs e:=(H.ck _ (mem_of_cget h)).now
theorem Hp.row {sz n c:Nat} {ad:Option Addr} {xs:List Value} (H:Hp w0 S w l) (i:Nat) (h:cget l i = some (cR e sz ad n c xs)):Row w e sz ad n c xs:=(H.ck _ (mem_of_cget h)).now
theorem Hp.at {F:Nat→Prop} (H:Hp w0 S w l) (i:Nat) (h:cget l i = some (F,p)):p w:=(H.ck _ (mem_of_cget h)).now
theorem Hp.held {F:Nat→Prop} (H:Hp w0 S w l) (i:Nat) (h:cget l i = some (F,p)) (x:Ext T w w') (hd:∀ k,k < w.heap.size→F k→¬ T k):p w':=((H.ck _ (mem_of_cget h)).ext x hd).now
theorem Hp.off (H:Hp w0 S w l) (i j:Nat) (hi:cget l i = some c) (hj:cget l j = some d) (hij:Nat.beq i j = false):∀ k,k < w.heap.size→c.1 k→¬ d.1 k:=fun k _ h1 h2=>
  H.dis i j c d (by rw [← cget_eq];exact hi) (by rw [← cget_eq];exact hj) (fun h=>by subst h;simp at hij) k h1 h2
theorem Hp.eff (H:Hp w0 S w l) (i:Nat) (h:cget l i = some c) (x:Ext c.1 w w') (hk:Ck d.1 d.2 w') (ho:∀ k,d.1 k→k < w'.heap.size∧(c.1 k∨w.heap.size≤k)) (hs:cset l i d = some l'):Hp w0 S w' l':=by
  rw [cset_eq hs]
  rw [cget_eq] at h
  have hi:=(List.getElem?_eq_some_iff.1 h).1
  have hz:=H.ext.size
  have hget:∀ (j:Nat) a,(l.set i d)[j]? = some a→(j = i∧a = d)∨(j ≠ i∧l[j]? = some a):=fun j a hj=>by
    rw [List.getElem?_set] at hj
    split at hj
    · rename_i e1
      subst e1
      simp [hi] at hj
      exact .inl ⟨rfl,hj.symm⟩
    rename_i e1
    exact .inr ⟨fun h=>e1 h.symm,hj⟩
  have hold:∀ (j:Nat) a,j ≠ i→l[j]? = some a→∀ k,a.1 k→¬ d.1 k:=fun j a hj ha k h1 h2=>by
    rcases (ho k h2).2 with h3 | h3
    · exact H.dis j i a c ha h hj k h1 h3
    have:=(H.own a (List.mem_of_getElem? ha) k h1).1
    omega
  have hxs:∀ k,k < w0.heap.size→c.1 k→S k:=fun k hk hc=>(H.own c (List.mem_of_getElem? h) k hc).2 hk
  refine ⟨H.ext.trans x hxs,fun i1 j1 a1 d1 h1 h2 hij k hk1 hk2=>?_,fun a ha k hka=>?_,fun a ha=>?_⟩
  · rcases hget _ _ h1 with ⟨e1,e2⟩ | ⟨e1,e2⟩
    · rcases hget _ _ h2 with ⟨e3,e4⟩ | ⟨e3,e4⟩
      · omega
      subst e2;exact hold _ _ e3 e4 k hk2 hk1
    rcases hget _ _ h2 with ⟨e3,e4⟩ | ⟨e3,e4⟩
    · subst e4;exact hold _ _ e1 e2 k hk1 hk2
    exact H.dis i1 j1 a1 d1 e2 e4 hij k hk1 hk2
  · obtain ⟨j1,hj1⟩:=List.mem_iff_getElem?.1 ha
    rcases hget _ _ hj1 with ⟨e1,e2⟩ | ⟨e1,e2⟩
    · subst e2
      refine ⟨(ho k hka).1,fun h0=>?_⟩
      rcases (ho k hka).2 with h3 | h3
      · exact hxs k h0 h3
      omega
    exact ⟨Nat.lt_of_lt_of_le (H.own a (List.mem_of_getElem? e2) k hka).1 x.size,(H.own a (List.mem_of_getElem? e2) k hka).2⟩
  obtain ⟨j1,hj1⟩:=List.mem_iff_getElem?.1 ha
  rcases hget _ _ hj1 with ⟨e1,e2⟩ | ⟨e1,e2⟩
  · subst e2;exact hk
  exact (H.ck a (List.mem_of_getElem? e2)).ext x fun k hk' h1 h2=>H.dis j1 i a c e2 h e1 k h1 h2
theorem Hp.setB (H:Hp w0 S w l) (i:Nat) (h:cget l i = some (cB b cs e)) (hb:Blk w' b cs' e) (x:Ext (One b) w w') (hs:cset l i (cB b cs' e) = some l'):Hp w0 S w' l':=
  H.eff (d:=cB b cs' e) i h x hb.ck (fun k hk=>⟨by have:k = b:=hk;subst this;exact hb.lt,.inl hk⟩) hs
theorem Hp.setR {sz n c n' c':Nat} {ad ad':Option Addr} {xs xs':List Value} {e:TypeId} (H:Hp w0 S w l) (i:Nat) (h:cget l i = some (cR e sz ad n c xs)) (hr:Row w' e sz ad' n' c' xs') (x:Ext (Own ad) w w') (ho:∀ k,Own ad' k→Own ad k∨w.heap.size≤k) (hs:cset l i (cR e sz ad' n' c' xs') = some l'):Hp w0 S w' l':=
  H.eff (d:=cR e sz ad' n' c' xs') i h x hr.ck (fun k hk=>⟨hr.lt k hk,ho k hk⟩) hs
theorem Hp.addR {sz n c:Nat} {ad:Option Addr} {xs:List Value} (H:Hp w0 S w l) (x:Ext No w w') (hr:Row w' e sz ad n c xs) (ho:∀ k,Own ad k→w.heap.size≤k):Hp w0 S w' (cR e sz ad n c xs :: l):=
  H.cons x hr.ck fun k hk=>⟨ho k hk,hr.lt k hk⟩
theorem Hp.nilR (H:Hp w0 S w l) (e:TypeId) (sz:Nat):Hp w0 S w (cR e sz none 0 0 [] :: l):=
  H.addR (Ext.refl _ _) (Row.nil _ _ _) fun k hk=>by simp [Own] at hk
theorem Hp.turn {F:Nat→Prop} (H:Hp w0 S w l) (i:Nat) (h:cget l i = some (F,p)) (hp:∀ w,p w→q w) (hs:cset l i (F,q) = some l'):Hp w0 S w l':=
  H.eff (d:=(F,q)) i h (Ext.refl _ _) ((H.ck _ (mem_of_cget h)).mono hp) (fun k hk=>⟨(H.own _ (mem_of_cget h) k hk).1,.inl hk⟩) hs
theorem cpick_mem {ks:List Nat} (h:cpick l ks = some m):∀ c ∈ m,c ∈ l:=fun c hc=>by
  obtain ⟨j,hj⟩:=List.mem_iff_getElem?.1 hc
  obtain ⟨i,-,hi⟩:=cpick_get h j c hj
  exact List.mem_of_getElem? hi
theorem Hp.keep (H:Hp w0 S w l) (ks:List Nat) (hn:nodup ks = true) (h:cpick l ks = some m):Hp w0 S w m:=
  ⟨H.ext,fun i j c d hi hj hij k hk=>by
    obtain ⟨i1,h1,h2⟩:=cpick_get h i c hi
    obtain ⟨j1,h3,h4⟩:=cpick_get h j d hj
    exact H.dis i1 j1 c d h2 h4 (fun e=>hij (nodup_spec hn i j i1 h1 (by rw [h3,e]))) k hk,
   fun c hc=>H.own c (cpick_mem h c hc),fun c hc=>H.ck c (cpick_mem h c hc)⟩
theorem Hp.pre (H:Hp w0 S w l) (ks:List Nat) (hn:nodup ks = true) (h:cpick l ks = some pr):Hp w (foot pr) w pr:=
  have K:=H.keep ks hn h
  ⟨Ext.refl _ _,K.dis,fun c hc k hk=>⟨(K.own c hc k hk).1,fun _=>⟨c,hc,hk⟩⟩,K.ck⟩
theorem foot_pick {ks os:List Nat} (hd:Dis l) (hn:nodup (ks++os) = true) (h1:cpick l ks = some pr) (h2:cpick l os = some rest) {c:Chunk} (hc:c ∈ rest) {k:Nat} (hk:c.1 k):¬ foot pr k:=fun ⟨d,hd1,hd2⟩=>by
  obtain ⟨j,hj⟩:=List.mem_iff_getElem?.1 hc
  obtain ⟨i,hi⟩:=List.mem_iff_getElem?.1 hd1
  obtain ⟨j1,h3,h4⟩:=cpick_get h2 j c hj
  obtain ⟨i1,h5,h6⟩:=cpick_get h1 i d hi
  refine hd i1 j1 d c h6 h4 (fun e=>?_) k hd2 hk
  have hi9:=(List.getElem?_eq_some_iff.1 h5).1
  have:=nodup_spec hn i (ks.length + j) i1 (by rw [List.getElem?_append_left hi9];exact h5) (by rw [List.getElem?_append_right (by omega)];simpa [e] using h3)
  omega
theorem Hp.back (H:Hp w0 S w l) (ks os:List Nat) (hn:nodup (ks++os) = true) (h1:cpick l ks = some pr) (h2:cpick l os = some rest) (K:Hp w (foot pr) w' post) (hj:cjoin post rest = some l'):Hp w0 S w' l':=by
  rw [cjoin_eq hj]
  have hz:=H.ext.size
  have hfoot:∀ k,foot pr k→k < w0.heap.size→S k:=fun k ⟨c,hc,hk⟩ h0=>(H.own c (cpick_mem h1 c hc) k hk).2 h0
  have hlt:∀ k,foot pr k→k < w.heap.size:=fun k ⟨c,hc,hk⟩=>(H.own c (cpick_mem h1 c hc) k hk).1
  have hos:nodup os = true:=by
    have:∀ a:List Nat,nodup (a++os) = true→nodup os = true:=fun a=>by
      induction a with
      | nil=>exact fun h=>h
      | cons x a ih=>intro h;simp only [List.cons_append,nodup,Bool.and_eq_true] at h;exact ih h.2
    exact this ks hn
  have R:=H.keep os hos h2
  have hap:∀ c ∈ post,∀ d ∈ rest,∀ k,c.1 k→¬ d.1 k:=fun c hc d hd k h3 h4=>by
    have h5:=(R.own d hd k h4).1
    exact foot_pick H.dis hn h1 h2 hd h4 ((K.own c hc k h3).2 h5)
  refine ⟨H.ext.trans K.ext fun k h0 hf=>hfoot k hf h0,fun i j c d hi hj hij k hk1 hk2=>?_,fun c hc k hk=>?_,fun c hc=>?_⟩
  · rcases Nat.lt_or_ge i post.length with hi1 | hi1
    · rw [List.getElem?_append_left hi1] at hi
      rcases Nat.lt_or_ge j post.length with hj1 | hj1
      · rw [List.getElem?_append_left hj1] at hj
        exact K.dis i j c d hi hj hij k hk1 hk2
      rw [List.getElem?_append_right hj1] at hj
      exact hap c (List.mem_of_getElem? hi) d (List.mem_of_getElem? hj) k hk1 hk2
    rw [List.getElem?_append_right hi1] at hi
    rcases Nat.lt_or_ge j post.length with hj1 | hj1
    · rw [List.getElem?_append_left hj1] at hj
      exact hap d (List.mem_of_getElem? hj) c (List.mem_of_getElem? hi) k hk2 hk1
    rw [List.getElem?_append_right hj1] at hj
    exact R.dis _ _ c d hi hj (by omega) k hk1 hk2
  · rcases List.mem_append.1 hc with hc | hc
    · refine ⟨(K.own c hc k hk).1,fun h0=>hfoot k ((K.own c hc k hk).2 (by omega)) h0⟩
    exact ⟨Nat.lt_of_lt_of_le (R.own c hc k hk).1 K.ext.size,(R.own c hc k hk).2⟩
  rcases List.mem_append.1 hc with hc | hc
  · exact K.ck c hc
  exact (R.ck c hc).ext K.ext fun k _ h3=>foot_pick H.dis hn h1 h2 hc h3
theorem Hp.more (H:Hp w0 S w l) (K:Hp w No w' post) (hj:cjoin post l = some l'):Hp w0 S w' l':=by
  have hz:=H.ext.size
  rw [cjoin_eq hj]
  clear hj
  have H':=H.pure K.ext
  refine ⟨H'.ext,fun i j c d hi hj hij k hk1 hk2=>?_,fun c hc k hk=>?_,fun c hc=>?_⟩
  · rcases Nat.lt_or_ge i post.length with hi1 | hi1
    · rw [List.getElem?_append_left hi1] at hi
      rcases Nat.lt_or_ge j post.length with hj1 | hj1
      · rw [List.getElem?_append_left hj1] at hj
        exact K.dis i j c d hi hj hij k hk1 hk2
      rw [List.getElem?_append_right hj1] at hj
      exact (K.own c (List.mem_of_getElem? hi) k hk1).2 (H.own d (List.mem_of_getElem? hj) k hk2).1
    rw [List.getElem?_append_right hi1] at hi
    rcases Nat.lt_or_ge j post.length with hj1 | hj1
    · rw [List.getElem?_append_left hj1] at hj
      exact (K.own d (List.mem_of_getElem? hj) k hk2).2 (H.own c (List.mem_of_getElem? hi) k hk1).1
    rw [List.getElem?_append_right hj1] at hj
    exact H.dis _ _ c d hi hj (by omega) k hk1 hk2
  · rcases List.mem_append.1 hc with hc | hc
    · exact ⟨(K.own c hc k hk).1,fun h0=>((K.own c hc k hk).2 (by omega)).elim⟩
    exact H'.own c hc k hk
  rcases List.mem_append.1 hc with hc | hc
  · exact K.ck c hc
  exact H'.ck c hc
theorem Hp.ro (H:Hp w0 S w l) (R:Ro w0 S p) (ks:List Nat) (h:cpick l ks = some pr):Ro w (foot pr) p:=by
  refine Ck.sub (F:=Rest w0 S) ?_ fun k hk=>⟨Nat.lt_of_lt_of_le hk.1 H.ext.size,fun ⟨c,hc,hck⟩=>hk.2 ((H.own c (cpick_mem h c hc) k hck).2 hk.1)⟩
  exact Ck.ext R H.ext fun k _ hk=>hk.2
end
section
variable {w0 w w':World} {S T:Nat→Prop} {l l':List Chunk} {b:Nat} {cs:List Value} {e:TypeId}
theorem Hp.heldB (H:Hp w0 S w l) (i:Nat) (h:cget l i = some (cB b cs e)) (x:Ext T w w') (hd:∀ k,k < w.heap.size→One b k→¬ T k):Blk w' b cs e:=H.held (F:=One b) (p:=fun w=>Blk w b cs e) i h x hd
theorem Hp.heldR {sz n c:Nat} {ad:Option Addr} {xs:List Value} (H:Hp w0 S w l) (i:Nat) (h:cget l i = some (cR e sz ad n c xs)) (x:Ext T w w') (hd:∀ k,k < w.heap.size→Own ad k→¬ T k):Row w' e sz ad n c xs:=H.held (F:=Own ad) (p:=fun w=>Row w e sz ad n c xs) i h x hd
theorem off_No {F:Nat→Prop}:∀ k,k < w.heap.size→F k→¬ No k:=fun k _ _=>not_No k
theorem Hp.conv (H:Hp w0 S w l) (e:l = l'):Hp w0 S w l':=e ▸ H
end
/-! ### A loop: slots and chunks that change are functions of the ghost, the others stay as they are -/
section
variable {nz:Sz} {P:Program} {n:Nat} {Q:Exit→Act→World→Prop} {c:Code} {a:Act} {w w0:World} {S:Nat→Prop} {l m:List (Nat × Value)} {hl mc:List Chunk}
theorem wp_loopH {G:Type} (sl:G→List (Nat × Value)) (hp:G→List Chunk) (J:G→Prop) (μ:G→Nat) (g₀:G) (hT:Sl nz (sl g₀++m) a) (H:Hp w0 S w (hp g₀++mc)) (h0:J g₀)
    (round:∀ g a w,J g→Sl nz (sl g++m) a→Hp w0 S w (hp g++mc)→c.wp P (Exit.then (fun a' w'=>∃ g',J g'∧Sl nz (sl g'++m) a'∧Hp w0 S w' (hp g'++mc)∧μ g' < μ g) Q) a w):(Code.loop c).wp P Q a w:=by
  refine wp_while (fun g a w=>J g∧Sl nz (sl g++m) a∧Hp w0 S w (hp g++mc)) μ g₀ ⟨h0,hT,H⟩ fun g a w ⟨h1,h2,h3⟩=>?_
  refine Code.wp_mono (fun e a w h=>?_) (round g a w h1 h2 h3)
  cases e <;> simp only [Exit.then] at h ⊢ <;> first | exact h | (obtain ⟨g',h4,h5,h6,h7⟩:=h;exact ⟨g',⟨h4,h5,h6⟩,h7⟩)
end
end Go.Sx
