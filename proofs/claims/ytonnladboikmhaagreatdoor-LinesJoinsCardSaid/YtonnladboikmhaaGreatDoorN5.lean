/- Lines part by part, and the stamps in them, plainly. -/
import Derived.Test.YtonnladboikmhaaGreatDoorN1
import Derived.Lib.SplitLaws
import Derived.Lib.IndexLaws
import Derived.Lib.IndexBytes
import Derived.Lib.CutLaws
set_option linter.unusedSimpArgs false
set_option linter.unusedVariables false
namespace Go.Proofs.YtonnladboikmhaaGreatDoor
open Sx
theorem itoa_dot (n:Int):(46:UInt8) ∉ Lib.itoa n:=by
  intro h
  unfold Lib.itoa at h
  split at h
  · rcases List.mem_cons.1 h with h1 | h1
    · exact absurd h1 (by decide)
    have:=dec_digit _ _ h1
    have e:(46:UInt8).toNat = 46:=rfl
    omega
  have:=dec_digit _ _ h
  have e:(46:UInt8).toNat = 46:=rfl
  omega
/-! ### pieces between dots -/
theorem dot_head:∀ {a b x y:List UInt8},(46:UInt8) ∉ a→(46:UInt8) ∉ b→a++46 :: x = b++46 :: y→a = b∧x = y
  | [],[],x,y,_,_,h=>by simpa using h
  | [],c :: b,x,y,_,hb,h=>by
    simp only [List.nil_append,List.cons_append,List.cons.injEq] at h
    exact absurd (by simp [h.1]) hb
  | c :: a,[],x,y,ha,_,h=>by
    simp only [List.nil_append,List.cons_append,List.cons.injEq] at h
    exact absurd (by simp [← h.1]) ha
  | c :: a,d :: b,x,y,ha,hb,h=>by
    simp only [List.cons_append,List.cons.injEq] at h
    obtain ⟨h1,h2⟩:=dot_head (fun h9=>ha (by simp [h9])) (fun h9=>hb (by simp [h9])) h.2
    exact ⟨by rw [h.1,h1],h2⟩
def dots (l:List (List UInt8)):List UInt8:=l.flatMap fun p=>p++[46]
theorem dots_cons (p:List UInt8) (l:List (List UInt8)):dots (p :: l) = p++46 :: dots l:=by simp [dots]
theorem dots_snoc (l:List (List UInt8)) (p:List UInt8):dots (l++[p]) = dots l++(p++[46]):=by simp [dots]
theorem dots_split:∀ {vs ws:List (List UInt8)} {rest:List UInt8},(∀ v ∈ vs,(46:UInt8) ∉ v)→(∀ v ∈ ws,(46:UInt8) ∉ v)→dots vs++rest = dots ws→∃ us,ws = vs++us∧rest = dots us
  | [],ws,rest,_,_,h=>⟨ws,rfl,by simpa [dots] using h⟩
  | v :: vs,[],rest,_,_,h=>by
    rw [dots_cons] at h
    simp [dots] at h
  | v :: vs,w :: ws,rest,hv,hw,h=>by
    rw [dots_cons,dots_cons,List.append_assoc,List.cons_append] at h
    obtain ⟨h1,h2⟩:=dot_head (hv v (by simp)) (hw w (by simp)) h
    obtain ⟨us,h3,h4⟩:=dots_split (fun u hu=>hv u (by simp [hu])) (fun u hu=>hw u (by simp [hu])) h2
    exact ⟨us,by rw [h1,h3];rfl,h4⟩
/-! ### a stamp as a text -/
def printS (t:Stp):List UInt8:=Lib.itoa t.w++[46]++Lib.itoa t.l++[46]++Lib.itoa t.n
theorem printS_stpT (t:Stp):printS t = stpT t:=by simp [printS,stpT,dot3]
theorem print_dots (t:Stp):printS t++[46] = dots [Lib.itoa t.w,Lib.itoa t.l,Lib.itoa t.n]:=by simp [printS,dots]
theorem three_dot (t:Stp):∀ v ∈ [Lib.itoa t.w,Lib.itoa t.l,Lib.itoa t.n],(46:UInt8) ∉ v:=by
  intro v hv
  simp only [List.mem_cons,List.not_mem_nil,or_false] at hv
  rcases hv with rfl | rfl | rfl <;> exact itoa_dot _
theorem may_in {t:Stp} (h:mayS t = true):inInt t.w∧inInt t.l∧inInt t.n:=by
  unfold mayS at h
  simp only [decide_eq_true_eq] at h
  unfold inInt
  omega
theorem print_inj {t u:Stp} (ht:inInt t.w∧inInt t.l∧inInt t.n) (hu:inInt u.w∧inInt u.l∧inInt u.n) (h:printS t = printS u):t = u:=by
  have h1:dots [Lib.itoa t.w,Lib.itoa t.l,Lib.itoa t.n]++[] = dots [Lib.itoa u.w,Lib.itoa u.l,Lib.itoa u.n]:=by rw [List.append_nil,← print_dots,← print_dots,h]
  obtain ⟨us,h2,h3⟩:=dots_split (three_dot _) (three_dot _) h1
  have h4:us = []:=by
    cases us with
    | nil=>rfl
    | cons a b=>rw [dots_cons] at h3;simp at h3
  subst h4
  simp at h2
  obtain ⟨a,b,c⟩:=t
  obtain ⟨d,e,f⟩:=u
  have e1:=itoa_inj h2.1.symm
  have e2:=itoa_inj h2.2.1.symm
  have e3:=itoa_inj h2.2.2.symm
  simp only at e1 e2 e3
  rw [e1,e2,e3]
def Parsed (s:List UInt8) (x y z e:Int):Prop:=
  (e = 0∧mayS ⟨x,y,z⟩ = true∧s = printS ⟨x,y,z⟩)∨(e = 4∧x = 0∧y = 0∧z = 0∧∀ t,mayS t = true→s ≠ printS t)
theorem Parsed.one {s:List UInt8} {x y z e x' y' z' e':Int} (h:Parsed s x y z e) (k:Parsed s x' y' z' e'):x = x'∧y = y'∧z = z'∧e = e':=by
  rcases h with ⟨rfl,h1,h2⟩ | ⟨rfl,rfl,rfl,rfl,h1⟩
  · rcases k with ⟨rfl,k1,k2⟩ | ⟨rfl,rfl,rfl,rfl,k1⟩
    · have:=print_inj (may_in h1) (may_in k1) (h2.symm.trans k2)
      simp only [Stp.mk.injEq] at this
      exact ⟨this.1,this.2.1,this.2.2,rfl⟩
    exact absurd h2 (k1 _ h1)
  rcases k with ⟨rfl,k1,k2⟩ | ⟨rfl,rfl,rfl,rfl,k1⟩
  · exact absurd k2 (h1 _ k1)
  exact ⟨rfl,rfl,rfl,rfl⟩
/-! ### read by the numbers between the dots -/
def itoas (vs:List Int):List (List UInt8):=vs.map Lib.itoa
theorem itoas_dot (vs:List Int):∀ v ∈ itoas vs,(46:UInt8) ∉ v:=fun v hv=>by
  obtain ⟨n,-,rfl⟩:=List.mem_map.1 hv
  exact itoa_dot n
def arr (vs:List Int):List Value:=[.int .i64 (vs.getD 0 0),.int .i64 (vs.getD 1 0),.int .i64 (vs.getD 2 0)]
theorem arr_set {vs:List Int} (h:vs.length < 3) (v:Int) (k:Nat) (hk:k = vs.length):(arr vs).set k (.int .i64 v) = arr (vs++[v]):=by
  subst hk
  match vs,h with
  | [],_=>rfl
  | [a],_=>rfl
  | [a,b],_=>rfl
  | _ :: _ :: _ :: _,h=>simp only [List.length_cons] at h;omega
def Got (s:List UInt8) (vs:List Int) (from_ i:Nat):Prop:=
  from_≤i∧i≤s.length + 1∧(s++[46]).take from_ = dots (itoas vs)∧(46:UInt8) ∉ ((s++[46]).take i).drop from_
theorem Got.init (s:List UInt8):Got s [] 0 0:=⟨Nat.le_refl _,Nat.zero_le _,by simp [itoas,dots],by simp⟩
theorem Got.skip {s:List UInt8} {vs:List Int} {f i:Nat} (h:Got s vs f i) {b:UInt8} (hb:s[i]? = some b) (hne:b ≠ 46):Got s vs f (i + 1):=by
  obtain ⟨h1,h2,h3,h4⟩:=h
  have hi:=(List.getElem?_eq_some_iff.1 hb).1
  refine ⟨by omega,by omega,h3,?_⟩
  have hu:(s++[46])[i]? = some b:=by rw [List.getElem?_append_left hi];exact hb
  obtain ⟨h5,h6⟩:=List.getElem?_eq_some_iff.1 hu
  rw [List.take_succ_eq_append_getElem h5,List.drop_append_of_le_length (by rw [List.length_take];omega),List.mem_append,List.mem_singleton,h6]
  rintro (h9 | h9)
  · exact h4 h9
  exact hne h9.symm
def pcs (s:List UInt8) (f i:Nat):List UInt8:=(s.take i).drop f
theorem Got.piece {s:List UInt8} {vs:List Int} {f i:Nat} (h:Got s vs f i) (hi:i≤s.length):(46:UInt8) ∉ pcs s f i:=by
  have h4:=h.2.2.2
  rw [List.take_append_of_le_length hi] at h4
  exact h4
theorem Got.dot {s:List UInt8} {vs:List Int} {f i:Nat} (h:Got s vs f i) (hi:i≤s.length) (hd:(s++[46])[i]? = some 46):s++[46] = dots (itoas vs)++(pcs s f i++46 :: (s++[46]).drop (i + 1)):=by
  obtain ⟨h1,h2,h3,h4⟩:=h
  obtain ⟨h5,h6⟩:=List.getElem?_eq_some_iff.1 hd
  rw [← h3]
  conv=>lhs;rw [← List.take_append_drop i (s++[46]),List.drop_eq_getElem_cons h5,h6]
  rw [← List.append_assoc]
  congr 1
  unfold pcs
  rw [List.take_append_of_le_length hi,List.take_append_of_le_length (by omega)]
  conv=>lhs;rw [← List.take_append_drop f (s.take i),List.take_take,Nat.min_eq_left h1]
theorem Got.next {s:List UInt8} {vs:List Int} {f i:Nat} (h:Got s vs f i) (hi:i≤s.length) (hd:(s++[46])[i]? = some 46) {v:Int} (hv:Lib.itoa v = pcs s f i):Got s (vs++[v]) (i + 1) (i + 1):=by
  have h9:=h.dot hi hd
  obtain ⟨h1,h2,h3,h4⟩:=h
  have hl:=(List.getElem?_eq_some_iff.1 hd).1
  refine ⟨Nat.le_refl _,by simp at hl;omega,?_,by rw [List.drop_eq_nil_of_le (by rw [List.length_take];omega)];simp⟩
  have e:itoas (vs++[v]) = itoas vs++[Lib.itoa v]:=by simp [itoas]
  rw [e,dots_snoc,hv]
  have h10:dots (itoas vs)++(pcs s f i++[46])++(s++[46]).drop (i + 1) = s++[46]:=by
    conv=>rhs;rw [h9]
    simp
  have h11:(dots (itoas vs)++(pcs s f i++[46])).length = i + 1:=by
    have:=congrArg List.length h10
    simp only [List.length_append,List.length_drop] at this ⊢
    simp only [List.length_append] at hl
    simp only [List.length_cons,List.length_nil] at this hl ⊢
    omega
  conv=>lhs;rw [← h10]
  rw [List.take_left' h11]
theorem Got.bad {s:List UInt8} {vs:List Int} {f i:Nat} (h:Got s vs f i) (hi:i≤s.length) (hd:(s++[46])[i]? = some 46) (hbad:3≤vs.length∨∀ n,inInt n→Lib.itoa n ≠ pcs s f i) (t:Stp) (ht:mayS t = true):s ≠ printS t:=fun hs=>by
  have h9:=h.dot hi hd
  rw [hs,print_dots,← hs] at h9
  obtain ⟨us,h1,h2⟩:=dots_split (itoas_dot vs) (three_dot _) h9.symm
  cases us with
  | nil=>simp [dots] at h2
  | cons u us=>
    rw [dots_cons u us] at h2
    have hdu:(46:UInt8) ∉ u:=three_dot t u (by rw [h1];simp)
    obtain ⟨h3,-⟩:=dot_head (h.piece hi) hdu h2
    have hl:=congrArg List.length h1
    simp [itoas] at hl
    rcases hbad with h4 | h4
    · omega
    have hmem:u ∈ [Lib.itoa t.w,Lib.itoa t.l,Lib.itoa t.n]:=by rw [h1];simp
    obtain ⟨m1,m2,m3⟩:=may_in ht
    simp at hmem
    rcases hmem with rfl | rfl | rfl
    · exact h4 _ m1 h3.symm
    · exact h4 _ m2 h3.symm
    exact h4 _ m3 h3.symm
theorem Got.end {s:List UInt8} {vs:List Int} {f:Nat} (h:Got s vs f (s.length + 1)) (hf:f = s.length + 1):s++[46] = dots (itoas vs):=by
  have h3:=h.2.2.1
  subst hf
  rw [List.take_of_length_le (by simp)] at h3
  exact h3
theorem Got.three {s:List UInt8} {vs:List Int} (h:s++[46] = dots (itoas vs)) (hin:∀ v ∈ vs,inInt v):(∀ t,mayS t = true→s = printS t→vs = [t.w,t.l,t.n])∧∀ a b c,vs = [a,b,c]→s = printS ⟨a,b,c⟩:=by
  refine ⟨fun t ht hs=>?_,fun a b c hv=>?_⟩
  · rw [hs,print_dots] at h
    obtain ⟨us,h1,h2⟩:=dots_split (rest:=[]) (itoas_dot vs) (three_dot _) (by rw [List.append_nil];exact h.symm)
    have h4:us = []:=by
      cases us with
      | nil=>rfl
      | cons a b=>rw [dots_cons] at h2;simp at h2
    subst h4
    rw [List.append_nil] at h1
    obtain ⟨m1,m2,m3⟩:=may_in ht
    match vs,h1,hin with
    | [],h1,_=>simp [itoas] at h1
    | [_],h1,_=>simp [itoas] at h1
    | [_,_],h1,_=>simp [itoas] at h1
    | [a,b,c],h1,hin=>
      simp [itoas] at h1
      rw [itoa_inj h1.1,itoa_inj h1.2.1,itoa_inj h1.2.2]
    | _ :: _ :: _ :: _ :: _,h1,_=>simp [itoas] at h1
  · subst hv
    have:s++[46] = printS ⟨a,b,c⟩++[46]:=by rw [h,print_dots];rfl
    exact List.append_cancel_right this
/-! ### read sign by sign -/
structure RS where
  k:Nat
  d:Nat
  ns:List Int
def rd (st:RS) (c:UInt8):Option RS:=
  if c.toNat = 46∧0 < st.d∧st.k < 2 then some ⟨st.k + 1,0,st.ns⟩
  else if (48≤c.toNat∧c.toNat≤57)∧st.d < 16 then some ⟨st.k,st.d + 1,st.ns.set st.k (10 * st.ns.getD st.k 0 + ((c.toNat - 48:Nat):Int))⟩
  else none
def rdAll (st:Option RS) (l:List UInt8):Option RS:=l.foldl (fun o c=>o.bind fun st=>rd st c) st
theorem rdAll_none (l:List UInt8):rdAll none l = none:=by
  unfold rdAll
  induction l with
  | nil=>rfl
  | cons c l ih=>simpa using ih
theorem rdAll_append (st:Option RS) (l m:List UInt8):rdAll st (l++m) = rdAll (rdAll st l) m:=by unfold rdAll;rw [List.foldl_append]
theorem rdAll_snoc {s:List UInt8} {i:Nat} {c:UInt8} (h:s[i]? = some c) (st:Option RS):rdAll st (s.take (i + 1)) = (rdAll st (s.take i)).bind fun st=>rd st c:=by
  obtain ⟨hi,rfl⟩:=List.getElem?_eq_some_iff.1 h
  rw [List.take_succ_eq_append_getElem hi,rdAll_append]
  rfl
theorem rdAll_dead {s:List UInt8} {i:Nat} {c:UInt8} (h:s[i]? = some c) {st:Option RS} {q:RS} (hq:rdAll st (s.take i) = some q) (hd:rd q c = none):rdAll st s = none:=by
  have h1:=rdAll_snoc h st
  rw [hq] at h1
  simp only [Option.bind_some,hd] at h1
  conv=>lhs;rw [← List.take_append_drop (i + 1) s]
  rw [rdAll_append,h1,rdAll_none]
theorem nd_le9 (b:Nat):∀ u:Nat,u < 10 ^ b→0 < b→(Lib.decDigits u).length≤b:=by
  induction b with
  | zero=>intro u _ h;omega
  | succ b ih=>
    intro u hu _
    by_cases h:u < 10
    · rw [Lib.decDigits_one h];simp
    rw [Lib.decDigits,dif_neg h,List.length_append]
    rcases Nat.eq_zero_or_pos b with h0 | h0
    · subst h0;omega
    have:=ih (u / 10) (by rw [Nat.pow_succ] at hu;omega) h0
    simp only [List.length_cons,List.length_nil];omega
theorem rd_dec (k:Nat) (ns:List Int) (hk:k < ns.length) (h0:ns.getD k 0 = 0) (m:Nat):(Lib.decDigits m).length≤16→rdAll (some ⟨k,0,ns⟩) (Lib.decDigits m) = some ⟨k,(Lib.decDigits m).length,ns.set k (m:Int)⟩:=by
  induction m using Nat.strongRecOn with
  | _ m ih=>
    intro hl
    by_cases h:m < 10
    · rw [Lib.decDigits_one h]
      have hd:=digit_of m h
      simp only [rdAll,List.foldl_cons,List.foldl_nil,Option.bind_some,rd,hd]
      rw [if_neg (by omega),if_pos (by omega),h0]
      simp
    rw [Lib.decDigits,dif_neg h] at hl ⊢
    rw [rdAll_append,ih (m / 10) (by omega) (by rw [List.length_append] at hl;omega)]
    have hd:=digit_of (m % 10) (by omega)
    simp only [rdAll,List.foldl_cons,List.foldl_nil,Option.bind_some,rd,hd]
    rw [List.length_append] at hl
    rw [if_neg (by omega),if_pos (by simp at hl;omega)]
    simp only [Option.some.injEq,RS.mk.injEq,true_and]
    refine ⟨by simp,?_⟩
    rw [List.set_set]
    congr 1
    have:(ns.set k ((m / 10:Nat):Int)).getD k 0 = ((m / 10:Nat):Int):=by simp [List.getD,hk]
    rw [this]
    omega
theorem rd_print (t:Stp) (ht:mayS t = true):∃ d,rdAll (some ⟨0,0,[0,0,0]⟩) (printS t) = some ⟨2,d,[t.w,t.l,t.n]⟩:=by
  obtain ⟨a,b,c⟩:=t
  unfold mayS at ht
  simp only [decide_eq_true_eq] at ht
  obtain ⟨u,rfl⟩:∃ u:Nat,a = u:=⟨a.toNat,by omega⟩
  obtain ⟨v,rfl⟩:∃ u:Nat,b = u:=⟨b.toNat,by omega⟩
  obtain ⟨w,rfl⟩:∃ u:Nat,c = u:=⟨c.toNat,by omega⟩
  have hu:=nd_le9 16 u (by omega) (by omega)
  have hv:=nd_le9 16 v (by omega) (by omega)
  have hw:=nd_le9 16 w (by omega) (by omega)
  have pu:0 < (Lib.decDigits u).length:=List.length_pos_iff.2 (dec_ne u)
  have pv:0 < (Lib.decDigits v).length:=List.length_pos_iff.2 (dec_ne v)
  have dot:∀ k d ns,0 < d→k < 2→rdAll (some ⟨k,d,ns⟩) [46] = some ⟨k + 1,0,ns⟩:=fun k d ns hd hk=>by
    have e:(46:UInt8).toNat = 46:=rfl
    simp [rdAll,rd,hd,hk,e]
  refine ⟨(Lib.decDigits w).length,?_⟩
  unfold printS
  simp only [itoa_nonneg']
  rw [rdAll_append,rdAll_append,rdAll_append,rdAll_append,rd_dec 0 [0,0,0] (by simp) rfl u hu,dot _ _ _ pu (by omega),rd_dec 1 _ (by simp) rfl v hv,dot _ _ _ pv (by omega),rd_dec 2 _ (by simp) rfl w hw]
  rfl
theorem arr_set3 {ns:List Int} (h:ns.length = 3) (k:Nat) (hk:k < 3) (v:Int):(arr ns).set k (.int .i64 v) = arr (ns.set k v):=by
  match ns,h,k,hk with
  | [a,b,c],_,0,_=>rfl
  | [a,b,c],_,1,_=>rfl
  | [a,b,c],_,2,_=>rfl
  | [a,b,c],_,k + 3,hk=>omega
theorem arr_get {ns:List Int} (k:Nat) (hk:k < 3):(arr ns)[k]? = some (.int .i64 (ns.getD k 0)):=by
  match k,hk with
  | 0,_=>rfl
  | 1,_=>rfl
  | 2,_=>rfl
  | k + 3,hk=>omega
/-! parts at a byte, all of them -/
def spl (c:UInt8):Key→List Key
  | []=>[[]]
  | d :: r=>if d = c then [] :: spl c r else match spl c r with
    | []=>[[d]]
    | p :: ps=>(d :: p) :: ps
theorem spl_ne (c:UInt8):∀ s:Key,spl c s ≠ []
  | []=>by simp [spl]
  | d :: r=>by
    unfold spl
    split
    · simp
    split <;> simp
theorem spl_one {c:UInt8}:∀ {a:Key},(∀ d ∈ a,d ≠ c)→spl c a = [a]
  | [],_=>rfl
  | d :: r,h=>by
    unfold spl
    rw [if_neg (h d (by simp)),spl_one fun e he=>h e (by simp [he])]
theorem spl_app {c:UInt8} {b:Key}:∀ {a:Key},(∀ d ∈ a,d ≠ c)→spl c (a++c :: b) = a :: spl c b
  | [],_=>by
    show spl c (c :: b) = _
    rw [spl,if_pos rfl]
  | d :: r,h=>by
    show spl c (d :: (r++c :: b)) = _
    rw [spl,if_neg (h d (by simp)),spl_app fun e he=>h e (by simp [he])]
def jn (c:UInt8):List Key→Key
  | []=>[]
  | [p]=>p
  | p :: q :: r=>p++c :: jn c (q :: r)
theorem jn_spl (c:UInt8):∀ s:Key,jn c (spl c s) = s
  | []=>rfl
  | d :: r=>by
    have ih:=jn_spl c r
    unfold spl
    by_cases h:d = c
    · subst h
      rw [if_pos rfl]
      cases hs:spl d r with
      | nil=>exact absurd hs (spl_ne d r)
      | cons p ps=>
        rw [hs] at ih
        show []++d :: jn d (p :: ps) = _
        rw [ih]
        rfl
    rw [if_neg h]
    cases hs:spl c r with
    | nil=>exact absurd hs (spl_ne c r)
    | cons p ps=>
      rw [hs] at ih
      dsimp only
      cases ps with
      | nil=>show d :: p = _;rw [← ih];rfl
      | cons q ps=>show d :: (p++c :: jn c (q :: ps)) = _;rw [← ih];rfl
theorem spl_len (c:UInt8):∀ s:Key,∀ p ∈ spl c s,p.length≤s.length
  | [],p,hp=>by
    simp only [spl,List.mem_cons,List.not_mem_nil,or_false] at hp
    subst hp
    exact Nat.le_refl _
  | e :: r,p,hp=>by
    have ih:=spl_len c r
    unfold spl at hp
    rw [List.length_cons]
    by_cases h:e = c
    · rw [if_pos h] at hp
      rcases List.mem_cons.1 hp with rfl | hp
      · exact Nat.zero_le _
      have:=ih p hp;omega
    rw [if_neg h] at hp
    cases hs:spl c r with
    | nil=>exact absurd hs (spl_ne c r)
    | cons q ps=>
      rw [hs] at hp ih
      rcases List.mem_cons.1 hp with rfl | hp
      · have:=ih q (by simp);rw [List.length_cons];omega
      have:=ih p (by simp [hp]);omega
theorem spl_cnt (c:UInt8):∀ s:Key,(spl c s).length≤s.length + 1
  | []=>Nat.le_refl _
  | e :: r=>by
    have ih:=spl_cnt c r
    unfold spl
    rw [List.length_cons]
    by_cases h:e = c
    · rw [if_pos h,List.length_cons];omega
    rw [if_neg h]
    cases hs:spl c r with
    | nil=>simp
    | cons q ps=>rw [hs] at ih;simp only [List.length_cons] at ih ⊢;omega
theorem spl_cut {c:UInt8} {s:Key} {i:Nat} (h:Lib.indexByte s c = i):s = s.take i++c :: s.drop (i + 1)∧(∀ d ∈ s.take i,d ≠ c)∧i < s.length:=by
  obtain ⟨h1,h2⟩:=Lib.indexByte_some h
  obtain ⟨hi,he⟩:=List.getElem?_eq_some_iff.1 h1
  refine ⟨?_,fun d hd hdc=>?_,hi⟩
  · conv=>lhs;rw [← List.take_append_drop i s,List.drop_eq_getElem_cons hi,he]
  obtain ⟨j,hj⟩:=List.mem_iff_getElem?.1 hd
  rw [List.getElem?_take] at hj
  split at hj
  · rename_i hji
    exact h2 j hji (by rw [hj,hdc])
  cases hj
theorem noidx {c:UInt8} {s:Key} (h:Lib.indexByte s c = -1):∀ d ∈ s,d ≠ c:=fun d hd hdc=>by
  obtain ⟨j,hj⟩:=List.mem_iff_getElem?.1 hd
  exact Lib.indexByte_none h j (by rw [hj,hdc])
theorem splitK_spl (c:UInt8):∀ (k:Nat) (s:Key),Lib.count s [c]≤k→Lib.splitK [c] 0 k s = spl c s
  | 0,s,h=>by
    rw [Lib.count_one] at h
    show [s] = _
    rw [spl_one]
    rintro d hd rfl
    have:=List.count_pos_iff.2 hd
    omega
  | k + 1,s,h=>by
    unfold Lib.splitK
    rw [Lib.index_one]
    by_cases h1:Lib.indexByte s c = -1
    · rw [if_pos (beq_iff_eq.2 h1),spl_one (noidx h1)]
    have h2:=Lib.indexByte_ge s c
    obtain ⟨i,hi⟩:∃ i:Nat,Lib.indexByte s c = i:=⟨(Lib.indexByte s c).toNat,by omega⟩
    obtain ⟨e,hn,-⟩:=spl_cut hi
    rw [if_neg (by rw [beq_iff_eq];exact h1),hi]
    show s.take (i + 0) :: Lib.splitK [c] 0 k (s.drop (i + [c].length)) = _
    rw [Nat.add_zero,show [c].length = 1 from rfl,splitK_spl c k]
    · conv=>rhs;rw [e,spl_app hn]
    rw [Lib.count_one] at h ⊢
    rw [e] at h
    simp only [List.count_append,List.count_cons_self] at h
    omega
theorem splitB_spl (c:UInt8) (s:Key):(Lib.splitB ⟨#[c]⟩ 0 (Lib.countB ⟨s.toArray⟩ ⟨#[c]⟩) ⟨s.toArray⟩).map Value.string = (spl c s).map fun p=>Value.string ⟨p.toArray⟩:=by
  have h:=Lib.splitB_data ⟨#[c]⟩ 0 (Lib.countB ⟨s.toArray⟩ ⟨#[c]⟩) ⟨s.toArray⟩
  have h2:Lib.splitK [c] 0 (Lib.countB ⟨s.toArray⟩ ⟨#[c]⟩) s = spl c s:=splitK_spl c _ s (Nat.le_refl _)
  rw [show Lib.splitK (⟨#[c]⟩:ByteArray).data.toList 0 (Lib.countB ⟨s.toArray⟩ ⟨#[c]⟩) (⟨s.toArray⟩:ByteArray).data.toList = Lib.splitK [c] 0 (Lib.countB ⟨s.toArray⟩ ⟨#[c]⟩) s from rfl,h2] at h
  rw [← h,List.map_map]
  apply List.map_congr_left
  intro x _
  rfl
theorem countB_spl (c:UInt8) (s:Key):Lib.countB ⟨s.toArray⟩ ⟨#[c]⟩ + 1 = (spl c s).length:=by
  have h:=congrArg List.length (splitB_spl c s)
  have hl:1≤(⟨#[c]⟩:ByteArray).size:=Nat.le_refl 1
  rw [List.length_map,List.length_map,Lib.splitB_all ⟨#[c]⟩ hl 0 _ _ rfl] at h
  exact h
theorem cutN_no:∀ {s:Key},(∀ c ∈ s,c ≠ 10)→cutN s = (s,[])
  | [],_=>rfl
  | d :: r,h=>by
    unfold cutN
    rw [if_neg (h d (by simp)),cutN_no fun c hc=>h c (by simp [hc])]
theorem cutN_lib (s:Key):(Lib.cut s [10]).1 = (cutN s).1∧(Lib.cut s [10]).2.1 = (cutN s).2:=by
  unfold Lib.cut
  rw [Lib.index_one]
  have hge:=Lib.indexByte_ge s 10
  by_cases h:Lib.indexByte s 10 = -1
  · rw [h,if_neg (by omega),cutN_no (noidx h)]
    exact ⟨rfl,rfl⟩
  obtain ⟨i,hi⟩:∃ i:Nat,Lib.indexByte s 10 = i:=⟨(Lib.indexByte s 10).toNat,by omega⟩
  obtain ⟨e,hn,-⟩:=spl_cut hi
  rw [hi,if_pos (by omega)]
  have e2:cutN s = (s.take i,s.drop (i + 1)):=by
    conv=>lhs;rw [e]
    have:=cutN_lin (s.take i) (s.drop (i + 1)) hn
    rw [← this]
    unfold lin
    simp
  rw [e2]
  exact ⟨rfl,rfl⟩
/-! an entry's line, part by part -/
theorem spl_hd (t:Tn) (s:Stp) (n:Int):spl 32 (hdT t s n) = [[64],stpT s,tnT t,Lib.itoa n]:=by
  unfold hdT
  rw [show ((64:UInt8) :: 32 :: (stpT s++32 :: (tnT t++32 :: Lib.itoa n)):Key) = [64]++32 :: (stpT s++32 :: (tnT t++32 :: Lib.itoa n)) from rfl,spl_app (by decide),spl_app (a:=stpT s) (fun c hc=>(dot3_ne _ _ _ c hc).1),spl_app (a:=tnT t) (fun c hc=>(dot3_ne _ _ _ c hc).1),spl_one (fun c hc=>(ich_ne (itoa_ich _ c hc)).2.1)]
theorem spl_tn (t:Tn):spl 46 (tnT t) = [Lib.itoa t.co,Lib.itoa t.li,Lib.itoa t.sq]:=by
  have hn:∀ n:Int,∀ x ∈ Lib.itoa n,x ≠ 46:=fun n x hx=>(ich_ne (itoa_ich n x hx)).1
  unfold tnT dot3
  rw [spl_app (hn _),spl_app (hn _),spl_one (hn _)]
theorem hd_jn {x p1 q0 q1 q2 p3 p2:Key} {t:Tn} {s:Stp} {n:Int} (h:spl 32 x = [[64],p1,p2,p3]) (h1:p1 = stpT s) (h2:spl 46 p2 = [q0,q1,q2]) (e0:Lib.itoa t.co = q0) (e1:Lib.itoa t.li = q1) (e2:Lib.itoa t.sq = q2) (e3:Lib.itoa n = p3):hdT t s n = x:=by
  have hx:=jn_spl 32 x
  have hy:=jn_spl 46 p2
  rw [h] at hx
  rw [h2] at hy
  rw [← hx]
  simp only [jn] at hy ⊢
  rw [← hy,h1,← e0,← e1,← e2,← e3]
  rfl
/-! a write's line, part by part -/
def endW (s:Key):Int:=4 + Lib.indexByte (s.drop 3) 34
structure WrShape (s:Key) (c:UInt8) (k tl:Key):Prop where
  e:s = c :: 32 :: (quote k++tl)
theorem WrShape.facts {s:Key} {c:UInt8} {k tl:Key} (h:WrShape s c k tl):3 < s.length∧s.take 2 = [c,32]∧s[2]? = some 34∧s[0]? = some c∧endW s = 2 + (quote k).length∧(s.take (2 + (quote k).length)).drop 2 = quote k∧s.drop (2 + (quote k).length) = tl∧s.length = 2 + (quote k).length + tl.length:=by
  have e:=h.e
  have hq:quote k = 34 :: (k.flatMap esc++[34]):=by unfold quote;simp
  have hl:(quote k).length = (k.flatMap esc).length + 2:=by rw [hq];simp
  have hd:s.drop 3 = k.flatMap esc++34 :: tl:=by rw [e,hq];simp
  refine ⟨by rw [e];simp;omega,by rw [e];rfl,by rw [e,hq];rfl,by rw [e];rfl,?_,?_,?_,by rw [e];simp;omega⟩
  · unfold endW
    rw [hd,idx_app (flat_no34 k)]
    omega
  · rw [e,show 2 + (quote k).length = (quote k).length + 1 + 1 from by omega,List.take_succ_cons,List.take_succ_cons,List.take_left]
    rfl
  rw [e,show 2 + (quote k).length = (quote k).length + 1 + 1 from by omega,List.drop_succ_cons,List.drop_succ_cons,List.drop_left]
theorem wr_shape (w:Wt):if w.v.k = 0 then WrShape (wrT w) 45 w.key [] else WrShape (wrT w) 43 w.key (32 :: printV w.v):=by
  unfold wrT
  split
  · exact ⟨by simp⟩
  exact ⟨rfl⟩
theorem endW_bd (s:Key) (h:3 < s.length):3≤endW s∧endW s≤s.length:=by
  have:=idx_bd (s.drop 3) 34
  rw [List.length_drop] at this
  unfold endW
  omega
theorem key_part {s:Key} {n:Nat} (h3:3 < s.length) (hn:2≤n) (hu:(unq ((s.take n).drop 2)).2 = 0):s = s.take 2++(quote (unq ((s.take n).drop 2)).1++s.drop n):=by
  rw [unq_back hu]
  have e1:s.take 2 = (s.take n).take 2:=by rw [List.take_take,Nat.min_eq_left hn]
  rw [e1,← List.append_assoc,List.take_append_drop,List.take_append_drop]
theorem rdW_minus {s:Key} {n:Nat} (h3:3 < s.length) (he:endW s = n) (h0:s.take 2 = [45,32]) (hu:(unq ((s.take n).drop 2)).2 = 0) (hk:keyB (unq ((s.take n).drop 2)).1 = true) (hl:s.length = n):rdW s = some ⟨(unq ((s.take n).drop 2)).1,zeroV⟩:=by
  have hb:=endW_bd s h3
  refine rdW_of ?_ ⟨hk,mayV_zero,by show (0:Nat) < _;decide⟩
  unfold wrT
  rw [if_pos (show zeroV.k = 0 from rfl)]
  have:=key_part h3 (by omega) hu
  conv=>rhs;rw [this,h0,List.drop_eq_nil_of_le (show s.length≤n by omega)]
  simp
theorem rdW_plus {s:Key} {n:Nat} (h3:3 < s.length) (he:endW s = n) (h0:s.take 2 = [43,32]) (hu:(unq ((s.take n).drop 2)).2 = 0) (hk:keyB (unq ((s.take n).drop 2)).1 = true) (hs:s[n]? = some 32) (hp:(parseV (s.drop (n + 1))).2 = 0) (hn:(parseV (s.drop (n + 1))).1.k ≠ 0):rdW s = some ⟨(unq ((s.take n).drop 2)).1,(parseV (s.drop (n + 1))).1⟩:=by
  have hb:=endW_bd s h3
  refine rdW_of ?_ ⟨hk,(parse_may _).1,(parse_may _).2⟩
  unfold wrT
  rw [if_neg (show ¬ (parseV (s.drop (n + 1))).1.k = 0 from hn)]
  have:=key_part h3 (by omega) hu
  obtain ⟨hi,hv⟩:=List.getElem?_eq_some_iff.1 hs
  show (43:UInt8) :: 32 :: (quote (unq ((s.take n).drop 2)).1++32 :: printV (parseV (s.drop (n + 1))).1) = s
  rw [parse_back hp]
  conv=>rhs;rw [this,h0,List.drop_eq_getElem_cons hi,hv]
  rfl
theorem rdW_bad {s:Key} (h:¬ (3 < s.length∧(s.take 2 = [43,32]∨s.take 2 = [45,32])∧s[2]? = some 34)):rdW s = none:=rdW_no fun w _ e=>by
  have hw:=wr_shape w
  subst e
  split at hw
  · have:=hw.facts;exact h ⟨this.1,.inr this.2.1,this.2.2.1⟩
  have:=hw.facts;exact h ⟨this.1,.inl this.2.1,this.2.2.1⟩
theorem rdW_badk {s:Key} {n:Nat} (he:endW s = n) (h:¬ ((unq ((s.take n).drop 2)).2 = 0∧keyB (unq ((s.take n).drop 2)).1 = true)):rdW s = none:=rdW_no fun w hw e=>by
  have hs:=wr_shape w
  subst e
  have key:(unq (((wrT w).take n).drop 2)).2 = 0∧keyB (unq (((wrT w).take n).drop 2)).1 = true:=by
    split at hs
    · have hf:=hs.facts
      obtain rfl:n = 2 + (quote w.key).length:=by omega
      rw [hf.2.2.2.2.2.1,unq_quote]
      exact ⟨rfl,hw.key⟩
    have hf:=hs.facts
    obtain rfl:n = 2 + (quote w.key).length:=by omega
    rw [hf.2.2.2.2.2.1,unq_quote]
    exact ⟨rfl,hw.key⟩
  exact h key
theorem rdW_badv {s:Key} {n:Nat} (he:endW s = n) (h0:s.take 2 = [43,32]) (h:¬ (s[n]? = some 32∧(parseV (s.drop (n + 1))).2 = 0∧(parseV (s.drop (n + 1))).1.k ≠ 0)):rdW s = none:=rdW_no fun w hw e=>by
  have hs:=wr_shape w
  subst e
  split at hs
  · have hf:=hs.facts
    rw [hf.2.1] at h0
    cases h0
  rename_i hk
  have hf:=hs.facts
  obtain rfl:n = 2 + (quote w.key).length:=by omega
  have h7:=hf.2.2.2.2.2.2.1
  have e1:(wrT w)[2 + (quote w.key).length]? = some 32:=by
    have:=congrArg (fun l:Key=>l[0]?) h7
    simpa [List.getElem?_drop] using this
  have e2:(wrT w).drop (2 + (quote w.key).length + 1) = printV w.v:=by
    have:=congrArg (List.drop 1) h7
    simpa [List.drop_drop] using this
  rw [e1,e2,parse_print hw.may hw.num] at h
  exact h ⟨rfl,rfl,hk⟩
theorem rdW_badm {s:Key} {n:Nat} (he:endW s = n) (h0:s.take 2 = [45,32]) (h:s.length ≠ n):rdW s = none:=rdW_no fun w hw e=>by
  have hs:=wr_shape w
  subst e
  split at hs
  · have hf:=hs.facts
    have h8:=hf.2.2.2.2.2.2.2
    rw [List.length_nil] at h8
    omega
  have hf:=hs.facts
  rw [hf.2.1] at h0
  cases h0
/-! the sum's line, cut off -/
def hexB (c:UInt8):Bool:=decide (48≤c.toNat∧c.toNat≤57∨97≤c.toNat∧c.toNat≤102)
def tailOk (s:Key):Prop:=11≤s.length∧(s.length = 11∨s[s.length - 12]? = some 10)∧(s.drop (s.length - 11)).take 2 = [46,32]∧((s.drop (s.length - 9)).take 8).all hexB = true∧s[s.length - 1]? = some 10
def aheadT (s:Key):Key:=s.take (s.length - 11)
open Classical in
noncomputable def parseT (s:Key):List Ep × Int:=if tailOk s then (if (s.drop (s.length - 11)).take 10 = sumT (aheadT s) then parseB (aheadT s) else ([],13)) else ([],5)
theorem ahead_ended {s:Key} (h:tailOk s):ended (aheadT s):=by
  obtain ⟨h1,h2,-⟩:=h
  unfold ended aheadT
  by_cases h4:s.length = 11
  · left
    rw [h4]
    rfl
  right
  have h3:=h2.resolve_left h4
  rw [List.length_take,List.getElem?_take,show min (s.length - 11) s.length - 1 = s.length - 12 from by omega,if_pos (by omega)]
  exact h3
theorem tail_iff {s:Key} {n:Nat} (hn:s.length = n + 11):tailOk s ↔ (n = 0∨s[n - 1]? = some 10)∧(s.take (n + 2)).drop n = [46,32]∧((s.take (n + 10)).drop (n + 2)).all hexB = true∧s[n + 10]? = some 10:=by
  have e1:(s.take (n + 2)).drop n = (s.drop n).take 2:=by rw [List.drop_take,show n + 2 - n = 2 from by omega]
  have e2:(s.take (n + 10)).drop (n + 2) = (s.drop (n + 2)).take 8:=by rw [List.drop_take,show n + 10 - (n + 2) = 8 from by omega]
  rw [e1,e2]
  unfold tailOk
  rw [hn,show n + 11 - 12 = n - 1 from by omega,show n + 11 - 11 = n from by omega,show n + 11 - 9 = n + 2 from by omega,show n + 11 - 1 = n + 10 from by omega]
  constructor
  · rintro ⟨-,h2,h3⟩
    exact ⟨h2.imp (fun h=>by omega) id,h3⟩
  rintro ⟨h2,h3⟩
  exact ⟨by omega,h2.imp (fun h=>by omega) id,h3⟩
theorem tail_len {s:Key} (h:tailOk s):11≤s.length:=h.1
theorem ahead_at {s:Key} {n:Nat} (hn:s.length = n + 11):aheadT s = s.take n∧(s.drop (s.length - 11)).take 10 = (s.take (n + 10)).drop n:=by
  unfold aheadT
  rw [hn,show n + 11 - 11 = n from by omega,List.drop_take,show n + 10 - n = 10 from by omega]
  exact ⟨rfl,rfl⟩
theorem parse_t5 {s:Key} (h:¬ tailOk s):parseT s = ([],5):=by unfold parseT;rw [if_neg h]
theorem parse_t13 {s:Key} (h:tailOk s) (h2:(s.drop (s.length - 11)).take 10 ≠ sumT (aheadT s)):parseT s = ([],13):=by unfold parseT;rw [if_pos h,if_neg h2]
theorem parse_tB {s:Key} (h:tailOk s) (h2:(s.drop (s.length - 11)).take 10 = sumT (aheadT s)):parseT s = parseB (aheadT s):=by unfold parseT;rw [if_pos h,if_pos h2]
theorem u8_of {a:UInt8} {k:Nat} (hk:k < 256) (h:(a.toNat:Int) = (k:Int)):a = UInt8.ofNat k:=UInt8.toNat_inj.1 (by rw [UInt8.toNat_ofNat',Nat.mod_eq_of_lt hk];omega)
/-! an entry's line: what it says -/
theorem rdE_parts {s p1 p2 p3 q0 q1 q2:Key} {t:Tn} {x:Stp} {n:Int} (h:spl 32 s = [[64],p1,p2,p3]) (h2:spl 46 p2 = [q0,q1,q2]) (h1:p1 = stpT x) (e0:Lib.itoa t.co = q0) (e1:Lib.itoa t.li = q1) (e2:Lib.itoa t.sq = q2) (e3:Lib.itoa n = p3) (hk:HdOk t x n):rdE s = some (t,x,n):=
  rdE_of (hd_jn h h1 h2 e0 e1 e2 e3) hk
theorem rdE_none_of {s:Key} (h:∀ t x n,HdOk t x n→spl 32 s = [[64],stpT x,tnT t,Lib.itoa n]→False):rdE s = none:=
  rdE_no fun t x n hk e=>h t x n hk (by rw [← e];exact spl_hd t x n)
theorem mayT_in {t:Tn} {x:Stp} {n:Int} (h:HdOk t x n):inInt t.co∧inInt t.li∧inInt t.sq∧inInt n:=by
  have h1:=h.ht
  have h2:=h.n0
  have h3:=h.n1
  unfold mayT at h1
  have h1:=of_decide_eq_true h1
  exact ⟨by unfold inInt;omega,h.hi.1,h.hi.2,by unfold inInt;omega⟩
theorem emay_nil {t:Tn} {x:Stp}:emay t x [] = true ↔ mayT t = true∧mayS x = true∧x ≠ sz0:=by
  have h:emay t x [] = okE ⟨t,x,[]⟩:=rfl
  rw [h,okE_iff]
  exact ⟨fun h=>⟨h.1,h.2.1,h.2.2.1⟩,fun h=>⟨h.1,h.2.1,h.2.2,rfl,Nat.zero_le _,fun w hw=>by cases hw⟩⟩
theorem hd_parts {s p0 p1 p2 p3:Key} {t:Tn} {x:Stp} {n:Int} (h:spl 32 s = [p0,p1,p2,p3]) (h9:spl 32 s = [[64],stpT x,tnT t,Lib.itoa n]):p0 = [64]∧p1 = stpT x∧p2 = tnT t∧p3 = Lib.itoa n:=by
  rw [h] at h9
  simpa using h9
theorem tn_parts {p2 q0 q1 q2:Key} {t:Tn} (h:spl 46 p2 = [q0,q1,q2]) (f:p2 = tnT t):q0 = Lib.itoa t.co∧q1 = Lib.itoa t.li∧q2 = Lib.itoa t.sq:=by
  rw [f,spl_tn] at h
  simp only [List.cons.injEq,and_true] at h
  exact ⟨h.1.symm,h.2.1.symm,h.2.2.symm⟩
end Go.Proofs.YtonnladboikmhaaGreatDoor
