/- The chapter's reading of lines, plainly. -/
import Derived.Test.YtonnladboikmhaaGreatDoorW16
set_option linter.unusedSimpArgs false
set_option linter.unusedVariables false
namespace Go.Proofs.YtonnladboikmhaaGreatDoor
namespace Tryz
end Tryz
open Go.Proofs.Tryz Go.Proofs.YtonnladboikmhaaGreatDoor.Tryz
open Sx
theorem Tryz.can16:Sx.Can Tryz.prog 16:=⟨_,func16,by kernel_rfl,rfl⟩
theorem Tryz.can17:Sx.Can Tryz.prog 17:=⟨_,func17,by kernel_rfl,rfl⟩
theorem Tryz.can43:Sx.Can Tryz.prog 43:=⟨_,func43,by kernel_rfl,rfl⟩
theorem Tryz.can44:Sx.Can Tryz.prog 44:=⟨_,func44,by kernel_rfl,rfl⟩
theorem Tryz.can45:Sx.Can Tryz.prog 45:=⟨_,func45,by kernel_rfl,rfl⟩
theorem Tryz.can46:Sx.Can Tryz.prog 46:=⟨_,func46,by kernel_rfl,rfl⟩
theorem Tryz.can47:Sx.Can Tryz.prog 47:=⟨_,func47,by kernel_rfl,rfl⟩
theorem Tryz.can77:Sx.Can Tryz.prog 77:=⟨_,func77,by kernel_rfl,rfl⟩
/-! a line as the chapter reads it -/
def dstep (n:Int) (c:UInt8):Int:=IntKind.i64.wrap (IntKind.i64.wrap (10 * n) + ((c.toNat - 48:Nat):Int))
def numF (s:Key):Int:=s.foldl dstep 0
def digB (c:UInt8):Bool:=decide (48≤c.toNat∧c.toNat≤57)
def numX (s:Key):Int:=if s.all digB = true∧s.length≤19 then numF s else 0
theorem wrap_in (z:Int):inInt (IntKind.i64.wrap z):=by
  unfold inInt IntKind.wrap
  dsimp only
  rw [show IntKind.i64.signed = true from rfl,Bool.true_and,show (2:Int) ^ IntKind.i64.bits = 18446744073709551616 from by decide]
  have h1:=Int.emod_nonneg z (show (18446744073709551616:Int) ≠ 0 by decide)
  have h2:=Int.emod_lt_of_pos z (show (0:Int) < 18446744073709551616 by decide)
  split
  · rename_i h
    have h:=of_decide_eq_true h
    rw [show (2:Int) ^ (IntKind.i64.bits - 1) = 9223372036854775808 from by decide] at h
    omega
  rename_i h
  have h:¬ (2:Int) ^ (IntKind.i64.bits - 1)≤z % 18446744073709551616:=fun h9=>h (decide_eq_true h9)
  rw [show (2:Int) ^ (IntKind.i64.bits - 1) = 9223372036854775808 from by decide] at h
  omega
theorem numF_snoc (l:Key) (c:UInt8):numF (l++[c]) = dstep (numF l) c:=by unfold numF;rw [List.foldl_append];rfl
theorem numF_in (l:Key):inInt (numF l):=by
  induction h:l.length generalizing l with
  | zero=>rw [List.eq_nil_of_length_eq_zero h];unfold numF inInt;decide
  | succ n ih=>
    obtain ⟨m,x,rfl⟩:∃ m x,l = m++[x]:=⟨l.dropLast,l.getLast (by intro h9;subst h9;simp at h),(List.dropLast_concat_getLast _).symm⟩
    rw [numF_snoc]
    exact wrap_in _
theorem numX_in (s:Key):inInt (numX s):=by
  unfold numX
  split
  · exact numF_in s
  unfold inInt;decide
theorem dstep_of {n:Int} {c:UInt8} {d:Nat} (hc:c.toNat = 48 + d) (h0:0≤n) (h1:10 * n + d≤9223372036854775807):dstep n c = 10 * n + d:=by
  unfold dstep
  have e:((c.toNat - 48:Nat):Int) = d:=by omega
  rw [e,show IntKind.i64.wrap (10 * n) = 10 * n from wrap64 (by omega)]
  exact wrap64 (by omega)
theorem numF_dec (u:Nat) (h:u≤9223372036854775807):numF (Lib.decDigits u) = u:=by
  induction u using Nat.strongRecOn with
  | _ u ih=>
    by_cases h0:u < 10
    · rw [Lib.decDigits_one h0]
      have hd:=dstep_of (n:=0) (dg_byte h0) (by omega) (by omega)
      exact hd.trans (by omega)
    rw [dec_step h0,numF_snoc,ih (u / 10) (by omega) (by omega),dstep_of (dg_byte (show u % 10 < 10 by omega)) (by omega) (by omega)]
    omega
theorem numX_itoa {n:Int} (h0:0≤n) (h1:n≤9223372036854775807):numX (Lib.itoa n) = n:=by
  obtain ⟨u,rfl⟩:∃ u:Nat,n = u:=⟨n.toNat,by omega⟩
  rw [itoa_nonneg']
  unfold numX
  have ha:(Lib.decDigits u).all digB = true:=List.all_eq_true.2 fun c hc=>decide_eq_true ((dec_all u).1 c hc)
  rw [if_pos ⟨ha,nd_le9 19 u (by omega) (by decide)⟩,numF_dec u (by omega)]
def txnX (p:Key):Tn:=match spl 46 p with
  | [a,b,c]=>⟨numX a,numX b,numX c⟩
  | _=>⟨0,0,0⟩
theorem txnX_in (p:Key):inT (txnX p):=by
  unfold txnX
  split
  · exact ⟨numX_in _,numX_in _,numX_in _⟩
  unfold inT inInt;decide
theorem txnX_tn {t:Tn} (h:mayT t = true) (hi:inInt t.li∧inInt t.sq):txnX (tnT t) = t:=by
  unfold mayT at h
  have h:=of_decide_eq_true h
  unfold inInt at hi
  unfold txnX
  rw [spl_tn]
  show (⟨numX (Lib.itoa t.co),numX (Lib.itoa t.li),numX (Lib.itoa t.sq)⟩:Tn) = t
  rw [numX_itoa (by omega) (by omega),numX_itoa (by omega) (by omega),numX_itoa (by omega) (by omega)]
open Classical in
noncomputable def stX (p:Key):Stp:=if h:∃ t,mayS t = true∧p = printS t then h.choose else sz0
theorem stX_of {p:Key} {x y z r:Int} (h:Parsed p x y z r):stX p = ⟨x,y,z⟩:=by
  rcases h with ⟨-,h1,h2⟩ | ⟨-,rfl,rfl,rfl,h1⟩
  · have h3:∃ t,mayS t = true∧p = printS t:=⟨_,h1,h2⟩
    unfold stX
    rw [dif_pos h3]
    exact stpT_inj (by rw [← printS_stpT,← printS_stpT,← h3.choose_spec.2,h2])
  unfold stX
  rw [dif_neg (fun ⟨t,h2,h3⟩=>h1 t h2 h3)]
  rfl
theorem stX_st {t:Stp} (h:mayS t = true):stX (stpT t) = t:=by
  have h3:∃ q,mayS q = true∧stpT t = printS q:=⟨t,h,(printS_stpT t).symm⟩
  unfold stX
  rw [dif_pos h3]
  exact stpT_inj (by rw [← printS_stpT,← h3.choose_spec.2])
theorem mayS_in {q:Stp} (h:mayS q = true):inS q:=by
  unfold mayS at h
  have h:=of_decide_eq_true h
  obtain ⟨a,b,c⟩:=q
  unfold inS inInt
  simp only at h ⊢
  omega
theorem stX_in (p:Key):inS (stX p):=by
  unfold stX
  split
  · rename_i h
    have h1:=h.choose_spec.1
    generalize h.choose = q at h1 ⊢
    exact mayS_in h1
  unfold inS inInt sz0;decide
noncomputable def wrX (x:Key):Wt:=
  if Lib.indexByte (x.drop 3) 34 = -1 then ⟨[],zeroV⟩
  else if x[0]? = some 45∨(x.length:Int) < endW x + 1 then ⟨(unq ((x.take (endW x).toNat).drop 2)).1,zeroV⟩
  else ⟨(unq ((x.take (endW x).toNat).drop 2)).1,(parseV (x.drop ((endW x).toNat + 1))).1⟩
theorem wrX_wr {w:Wt} (h:WrOk w):wrX (wrT w) = w:=by
  have hs:=wr_shape w
  have key:∀ c tl,WrShape (wrT w) c w.key tl→¬ Lib.indexByte ((wrT w).drop 3) 34 = -1:=fun c tl hs h9=>by
    have hf:=hs.facts
    have h8:=hf.2.2.2.2.1
    have h7:=quote_len w.key
    unfold endW at h8
    omega
  split at hs
  · rename_i hk
    have hf:=hs.facts
    unfold wrX
    rw [if_neg (key _ _ hs),if_pos (.inl hf.2.2.2.1),hf.2.2.2.2.1,show (2 + ((quote w.key).length:Int)).toNat = 2 + (quote w.key).length from by omega,hf.2.2.2.2.2.1,unq_quote]
    have hz:=mayV_none h.may (by omega) (by omega)
    obtain ⟨a,b⟩:=w
    simp only at hz ⊢
    rw [hz]
  rename_i hk
  have hf:=hs.facts
  have hl:=hf.2.2.2.2.2.2.2
  rw [List.length_cons] at hl
  unfold wrX
  rw [if_neg (key _ _ hs),if_neg (by
    rintro (h9 | h9)
    · rw [hf.2.2.2.1] at h9;cases h9
    rw [hf.2.2.2.2.1] at h9;omega),hf.2.2.2.2.1,show (2 + ((quote w.key).length:Int)).toNat = 2 + (quote w.key).length from by omega,hf.2.2.2.2.2.1,unq_quote]
  have h7:=hf.2.2.2.2.2.2.1
  have e2:(wrT w).drop (2 + (quote w.key).length + 1) = printV w.v:=by
    have:=congrArg (List.drop 1) h7
    simpa [List.drop_drop] using this
  rw [e2,parse_print h.may h.num]
theorem wrX_le (x:Key):(wrX x).key.length≤x.length∧(wrX x).v.tx.length≤64∧(wrX x).v.num < 18446744073709551616:=by
  have h1:∀ n,(unq ((x.take n).drop 2)).1.length≤x.length:=fun n=>by
    have:=unq_len ((x.take n).drop 2)
    rw [List.length_drop,List.length_take] at this
    omega
  unfold wrX
  split
  · exact ⟨Nat.zero_le _,by decide,by decide⟩
  split
  · exact ⟨h1 _,by show ([]:Key).length≤_;decide,by show (0:Nat) < _;decide⟩
  exact ⟨h1 _,parse_txlen _,(parse_may _).2⟩
noncomputable def stepX (o:List Ep) (x:Key):Option (List Ep):=
  if 2 < x.length∧x[0]? = some 64 then match spl 32 x with
    | [_,p1,p2,_]=>some (o++[⟨txnX p2,stX p1,[]⟩])
    | _=>none
  else if o = []∨x.length < 2 then none else some (addW o (wrX x))
noncomputable def runX (ls:List Key):Option (List Ep):=ls.foldl (fun o x=>o.bind fun o=>stepX o x) (some [])
theorem runX_snoc (ls:List Key) (x:Key):runX (ls++[x]) = (runX ls).bind fun o=>stepX o x:=by
  unfold runX
  rw [List.foldl_append]
  rfl
theorem runX_none {ls:List Key} (h:runX ls = none) (m:List Key):runX (ls++m) = none:=by
  unfold runX at h ⊢
  rw [List.foldl_append,h]
  clear h
  induction m with
  | nil=>rfl
  | cons x m ih=>exact ih
theorem stepX_hd {o:List Ep} {t:Tn} {s:Stp} {n:Int} (h:HdOk t s n):stepX o (hdT t s n) = some (o++[⟨t,s,[]⟩]):=by
  unfold stepX
  rw [if_pos ⟨by unfold hdT;simp;omega,rfl⟩,spl_hd]
  show some (o++[⟨txnX (tnT t),stX (stpT s),[]⟩]) = _
  rw [txnX_tn h.ht h.hi,stX_st h.hs]
theorem stepX_wr {p:List Ep} {e:Ep} {w:Wt} (h:WrOk w):stepX (p++[e]) (wrT w) = some (p++[⟨e.t,e.s,e.ws++[w]⟩]):=by
  have h0:¬ (2 < (wrT w).length∧(wrT w)[0]? = some 64):=fun h9=>by
    have hs:=wr_shape w
    split at hs
    · rw [hs.facts.2.2.2.1] at h9;cases h9.2
    rw [hs.facts.2.2.2.1] at h9;cases h9.2
  have h1:¬ (p++[e] = []∨(wrT w).length < 2):=fun h9=>by
    have hs:=wr_shape w
    rcases h9 with h9 | h9
    · simp at h9
    split at hs
    · have:=hs.facts.1;omega
    have:=hs.facts.1;omega
  unfold stepX
  rw [if_neg h0,if_neg h1,wrX_wr h,addW_snoc]
theorem runX_writes {p:List Ep} {t:Tn} {s:Stp} {ls:List Key}:∀ (ws:List Wt),runX ls = some (p++[⟨t,s,[]⟩])→(∀ w ∈ ws,WrOk w)→runX (ls++ws.map wrT) = some (p++[⟨t,s,ws⟩]):=by
  intro ws
  induction h:ws.length generalizing ws with
  | zero=>
    intro ho _
    rw [List.eq_nil_of_length_eq_zero h,List.map_nil,List.append_nil]
    exact ho
  | succ k ih=>
    intro ho hw
    obtain ⟨m,x,rfl⟩:∃ m x,ws = m++[x]:=⟨ws.dropLast,ws.getLast (by intro h9;subst h9;simp at h),(List.dropLast_concat_getLast _).symm⟩
    have hm:m.length = k:=by simpa using h
    rw [List.map_append,← List.append_assoc,List.map_singleton,runX_snoc,ih m hm ho fun w hw2=>hw w (List.mem_append_left _ hw2)]
    exact stepX_wr (hw x (by simp))
theorem runX_good:∀ (l:List Ep),Good l→runX (linesL l) = some l:=by
  intro l
  induction h:l.length generalizing l with
  | zero=>intro _;rw [List.eq_nil_of_length_eq_zero h];rfl
  | succ n ih=>
    intro hg
    obtain ⟨p,e,rfl⟩:∃ m x,l = m++[x]:=⟨l.dropLast,l.getLast (by intro h9;subst h9;simp at h),(List.dropLast_concat_getLast _).symm⟩
    have hp:p.length = n:=by simpa using h
    have he:(p++[e])[p.length]? = some e:=by simp
    obtain ⟨a1,a2,a3,a4,a5,a6⟩:=okE_iff.1 (good_at hg.ok he).1
    obtain ⟨b1,b2⟩:=hg.num e (by simp)
    have hw:∀ w ∈ e.ws,WrOk w:=fun w hw=>⟨keys_mem a4 hw,a6 w hw,b2 w hw⟩
    rw [linesL_snoc]
    refine runX_writes e.ws ?_ hw
    rw [runX_snoc,ih p hp (good_pre hg)]
    exact stepX_hd ⟨a1,a2,a3,b1,by omega,by omega⟩
/-! the lines of a body -/
theorem spl_lines:∀ {ls:List Key},(∀ y ∈ ls,∀ c ∈ y,c ≠ 10)→spl 10 (ls.flatMap lin) = ls++[[]]
  | [],_=>rfl
  | y :: ls,h=>by
    have e:(y :: ls).flatMap lin = y++10 :: ls.flatMap lin:=by rw [List.flatMap_cons];unfold lin;simp
    rw [e,spl_app (h y (by simp)),spl_lines fun z hz=>h z (by simp [hz])]
    rfl
theorem runX_ok {b:Key} (h:(parseB b).2 = 0):runX (spl 10 b).dropLast = some (parseB b).1:=by
  obtain ⟨l,hl,rfl⟩:=parseB_ok h
  have h1:spl 10 (bodyT l) = linesL l++[[]]:=spl_lines (lines_no10 hl)
  rw [h1,List.dropLast_concat,runX_good l hl,parseB_of hl rfl]
theorem runX_cut {L:List Key} {i:Nat} (hi:i + 1 < L.length) (h:runX (L.take (i + 1)) = none):runX L.dropLast = none:=by
  have e:L.dropLast = L.take (i + 1)++(L.dropLast.drop (i + 1)):=by
    conv=>lhs;rw [← List.take_append_drop (i + 1) L.dropLast]
    rw [List.dropLast_eq_take,List.take_take,Nat.min_eq_left (by omega)]
  rw [e]
  exact runX_none h _
theorem runX_at {L:List Key} {i:Nat} {x:Key} (h:L[i]? = some x):runX (L.take (i + 1)) = (runX (L.take i)).bind fun o=>stepX o x:=by
  rw [List.take_add_one,h]
  exact runX_snoc _ _
theorem parseB_two (b:Key):parseB b = ((parseB b).1,0)∨parseB b = ([],4):=by
  unfold parseB
  split
  · exact .inl rfl
  exact .inr rfl
theorem parseB_fail {b:Key} (h:runX (spl 10 b).dropLast = none):parseB b = ([],4):=by
  rcases parseB_two b with h1 | h1
  · have h2:=runX_ok (show (parseB b).2 = 0 by rw [h1])
    rw [h] at h2
    cases h2
  exact h1
theorem parseB_print {b:Key} {o:List Ep} (hn:∀ x ∈ o,(inInt x.t.li∧inInt x.t.sq)∧∀ w ∈ x.ws,w.v.num < 18446744073709551616) (h:fault o = 0) (hb:bodyT o = b):parseB b = (o,0):=parseB_of ⟨h,hn⟩ hb
theorem idx_first {c:UInt8}:∀ {l:Key} {i:Nat},(∀ j d,j < i→l[j]? = some d→d ≠ c)→l[i]? = some c→Lib.indexByte l c = i
  | [],i,_,h=>by simp at h
  | d :: l,0,_,h=>by
    simp at h
    subst h
    simp [Lib.indexByte]
  | d :: l,i + 1,h1,h=>by
    have h2:=idx_first (l:=l) (i:=i) (fun j e hj he=>h1 (j + 1) e (by omega) (by simpa using he)) (by simpa using h)
    have h3:=h1 0 d (by omega) rfl
    rw [Lib.indexByte,if_neg (by simpa using h3),h2]
    have e1:((i:Int) == -1) = false:=by
      simp only [beq_eq_false_iff_ne,ne_eq]
      omega
    rw [e1]
    simp
theorem sp_hit {c:UInt8} {s:Key} {f i:Nat} (hf:f≤i) (hn:∀ j d,f≤j→j < i→s[j]? = some d→d ≠ c) (h:s[i]? = some c):spl c (s.drop f) = ((s.take i).drop f) :: spl c (s.drop (i + 1)):=by
  obtain ⟨hi,he⟩:=List.getElem?_eq_some_iff.1 h
  have e:s.drop f = (s.take i).drop f++c :: s.drop (i + 1):=by
    have h1:s = s.take i++c :: s.drop (i + 1):=by
      conv=>lhs;rw [← List.take_append_drop i s,List.drop_eq_getElem_cons hi,he]
    conv=>lhs;rw [h1]
    rw [List.drop_append_of_le_length (by rw [List.length_take];omega)]
  rw [e]
  refine spl_app fun d hd hdc=>?_
  obtain ⟨j,hj⟩:=List.mem_iff_getElem?.1 hd
  rw [List.getElem?_drop,List.getElem?_take] at hj
  split at hj
  · exact hn (f + j) d (by omega) (by omega) hj hdc
  cases hj
theorem sp_end {c:UInt8} {s:Key} {f:Nat} (hn:∀ j d,f≤j→s[j]? = some d→d ≠ c):spl c (s.drop f) = [s.drop f]:=spl_one fun d hd hdc=>by
  obtain ⟨j,hj⟩:=List.mem_iff_getElem?.1 hd
  rw [List.getElem?_drop] at hj
  exact hn (f + j) d (by omega) hj hdc
/-! what the lines weigh -/
def wgE (e:Ep):Nat:=200 + (e.ws.map fun w=>(wrT w).length + 1).sum
def wgO (o:List Ep):Nat:=(o.map wgE).sum
def lsum (ls:List Key):Nat:=(ls.map fun x=>x.length + 1).sum
theorem lsum_cons (x:Key) (l:List Key):lsum (x :: l) = x.length + 1 + lsum l:=by unfold lsum;rw [List.map_cons,List.sum_cons]
theorem lsum_app (l m:List Key):lsum (l++m) = lsum l + lsum m:=by unfold lsum;rw [List.map_append,List.sum_append]
theorem lsum_spl (c:UInt8):∀ s:Key,lsum (spl c s) = s.length + 1
  | []=>rfl
  | d :: s=>by
    have ih:=lsum_spl c s
    unfold spl
    split
    · rw [lsum_cons,ih,List.length_cons,List.length_nil]
      omega
    split
    · rename_i h
      exact absurd h (spl_ne c s)
    rename_i p ps h
    rw [h,lsum_cons] at ih
    rw [lsum_cons,List.length_cons,List.length_cons]
    omega
theorem lsum_take {L:List Key} {i:Nat} {x:Key} (h:L[i]? = some x):lsum (L.take i) + (x.length + 1)≤lsum L:=by
  obtain ⟨hi,he⟩:=List.getElem?_eq_some_iff.1 h
  have e:L = L.take i++x :: L.drop (i + 1):=by
    conv=>lhs;rw [← List.take_append_drop i L,List.drop_eq_getElem_cons hi,he]
  conv=>rhs;rw [e]
  rw [lsum_app,lsum_cons]
  omega
structure Wd (n:Nat) (o:List Ep):Prop where
  w:wgO o≤300 * n
  l:o.length≤n
  e:∀ p ∈ o,inS p.s∧inT p.t∧p.ws.length≤n∧∀ y ∈ p.ws,y.v.num < 18446744073709551616∧y.key.length≤n∧y.v.tx.length≤64
theorem wgO_app (l m:List Ep):wgO (l++m) = wgO l + wgO m:=by unfold wgO;rw [List.map_append,List.sum_append]
theorem wgO_one (e:Ep):wgO [e] = wgE e:=by simp [wgO]
theorem wgE_snoc (e:Ep) (w:Wt):wgE ⟨e.t,e.s,e.ws++[w]⟩ = wgE e + ((wrT w).length + 1):=by
  unfold wgE
  simp only [List.map_append,List.sum_append,List.map_cons,List.map_nil,List.sum_cons,List.sum_nil]
  omega
theorem Wd.step {n:Nat} {o o':List Ep} {x:Key} (h:Wd n o) (hs:stepX o x = some o'):Wd (n + (x.length + 1)) o':=by
  obtain ⟨h1,h2,h3⟩:=h
  unfold stepX at hs
  split at hs
  · split at hs
    · cases hs
      refine ⟨?_,?_,fun p hp=>?_⟩
      · rw [wgO_app,wgO_one]
        show wgO o + 200≤_
        omega
      · rw [List.length_append,List.length_singleton]
        omega
      rcases List.mem_append.1 hp with hp | hp
      · obtain ⟨a,b,c,d⟩:=h3 p hp
        exact ⟨a,b,by omega,fun y hy=>by have:=d y hy;omega⟩
      rw [List.mem_singleton] at hp
      subst hp
      exact ⟨stX_in _,txnX_in _,Nat.zero_le _,fun y hy=>by cases hy⟩
    cases hs
  split at hs
  · cases hs
  rename_i hne
  cases hs
  obtain ⟨m,e,rfl⟩:∃ m e,o = m++[e]:=⟨o.dropLast,o.getLast (by intro h9;exact hne (.inl h9)),(List.dropLast_concat_getLast _).symm⟩
  rw [addW_snoc]
  obtain ⟨b1,b2,b3⟩:=wrX_le x
  have hw:=wrT_le (wrX x)
  obtain ⟨a,b,c,d⟩:=h3 e (by simp)
  rw [wgO_app,wgO_one] at h1
  rw [List.length_append,List.length_singleton] at h2
  refine ⟨?_,?_,fun p hp=>?_⟩
  · rw [wgO_app,wgO_one,wgE_snoc]
    omega
  · rw [List.length_append,List.length_singleton]
    omega
  rcases List.mem_append.1 hp with hp | hp
  · obtain ⟨a,b,c,d⟩:=h3 p (by simp [hp])
    exact ⟨a,b,by omega,fun y hy=>by have:=d y hy;omega⟩
  rw [List.mem_singleton] at hp
  subst hp
  refine ⟨a,b,?_,fun y hy=>?_⟩
  · show (e.ws++[_]).length≤_
    rw [List.length_append,List.length_singleton]
    omega
  rcases List.mem_append.1 hy with hy | hy
  · have:=d y hy;omega
  rw [List.mem_singleton] at hy
  subst hy
  omega
theorem wd_run:∀ (ls:List Key) (o:List Ep),runX ls = some o→Wd (lsum ls) o:=by
  intro ls
  induction h:ls.length generalizing ls with
  | zero=>
    intro o ho
    rw [List.eq_nil_of_length_eq_zero h] at ho ⊢
    cases ho
    exact ⟨Nat.zero_le _,Nat.zero_le _,fun p hp=>by cases hp⟩
  | succ k ih=>
    intro o ho
    obtain ⟨m,x,rfl⟩:∃ m x,ls = m++[x]:=⟨ls.dropLast,ls.getLast (by intro h9;subst h9;simp at h),(List.dropLast_concat_getLast _).symm⟩
    rw [runX_snoc] at ho
    obtain ⟨o1,h1,h2⟩:=Option.bind_eq_some_iff.1 ho
    have:=(ih m (by simpa using h) o1 h1).step h2
    rw [lsum_app,lsum_cons]
    exact this
theorem body_wg:∀ (o:List Ep),(∀ p ∈ o,inS p.s∧inT p.t∧p.ws.length≤1000000)→(bodyT o).length≤wgO o
  | [],_=>Nat.le_refl _
  | e :: l,h=>by
    have ih:=body_wg l fun p hp=>h p (List.mem_cons_of_mem _ hp)
    obtain ⟨a,b,c⟩:=h e (List.mem_cons_self ..)
    have h1:bodyT (e :: l) = bodyT [e]++bodyT l:=body_app [e] l
    have h2:wgO (e :: l) = wgE e + wgO l:=by simp [wgO]
    have h3:bodyT [e] = lin (hdT e.t e.s e.ws.length)++(e.ws.map wrT).flatMap lin:=by simp [bodyT,linesL,linesE]
    have h4:∀ ws:List Wt,((ws.map wrT).flatMap lin).length = (ws.map fun w=>(wrT w).length + 1).sum:=fun ws=>by
      induction ws with
      | nil=>rfl
      | cons w ws ih=>
        simp only [List.map_cons,List.flatMap_cons,List.length_append,List.sum_cons,ih]
        simp [lin]
    have z0:=stpT_len a
    have z1:=tnT_len b
    have z2:=itoa_len (e.ws.length:Int) (by omega) (by omega)
    have h5:(lin (hdT e.t e.s e.ws.length)).length≤200:=by
      unfold lin hdT
      simp only [List.length_append,List.length_cons,List.length_nil]
      omega
    rw [h1,h2,List.length_append,h3,List.length_append,h4]
    unfold wgE
    omega
theorem Wd.prp {n:Nat} {o:List Ep} (h:Wd n o) (hn:n≤60000):(∀ p ∈ o,PrP p)∧(bodyT o).length≤18000000:=by
  refine ⟨fun p hp=>?_,?_⟩
  · obtain ⟨a,b,c,d⟩:=h.e p hp
    exact ⟨by omega,a,b,fun y hy=>by have:=d y hy;omega⟩
  have:=body_wg o fun p hp=>by obtain ⟨a,b,c,d⟩:=h.e p hp;exact ⟨a,b,by omega⟩
  have:=h.w
  omega
/-! the chapter's answer -/
theorem two_at {s:Key} {n:Nat} {a b:UInt8}:(s.take (n + 2)).drop n = [a,b] ↔ s[n]? = some a∧s[n + 1]? = some b:=by
  have g:∀ i,i < 2→((s.take (n + 2)).drop n)[i]? = s[n + i]?:=fun i hi=>by
    rw [List.getElem?_drop,List.getElem?_take,if_pos (by omega)]
  constructor
  · intro h
    have g0:=g 0 (by omega)
    have g1:=g 1 (by omega)
    rw [h] at g0 g1
    exact ⟨g0.symm,g1.symm⟩
  rintro ⟨h1,h2⟩
  refine List.ext_getElem? fun i=>?_
  match i with
  | 0=>rw [g 0 (by omega)];exact h1
  | 1=>rw [g 1 (by omega)];exact h2
  | i + 2=>
    rw [List.getElem?_drop,List.getElem?_take,if_neg (by omega)]
    rfl
theorem mid_at {s:Key} {n i:Nat} {c:UInt8} (h0:n + 2≤i) (h1:i < n + 10) (h:s[i]? = some c):c ∈ (s.take (n + 10)).drop (n + 2):=by
  refine List.mem_iff_getElem?.2 ⟨i - (n + 2),?_⟩
  rw [List.getElem?_drop,List.getElem?_take,if_pos (by omega),show n + 2 + (i - (n + 2)) = i from by omega,h]
theorem mid_all {s:Key} {n:Nat} (h:∀ j c,n + 2≤j→j < n + 10→s[j]? = some c→hexB c = true):((s.take (n + 10)).drop (n + 2)).all hexB = true:=by
  rw [List.all_eq_true]
  intro c hc
  obtain ⟨j,hj⟩:=List.mem_iff_getElem?.1 hc
  rw [List.getElem?_drop,List.getElem?_take] at hj
  split at hj
  · exact h (n + 2 + j) c (by omega) (by omega) hj
  cases hj
theorem sum_iff {s:Key} {n:Nat} (hn:s.length = n + 11) (ht:tailOk s):(s.drop (s.length - 11)).take 10 = sumT (aheadT s) ↔ hex8 (crc (s.take n)) = (s.take (n + 10)).drop (n + 2):=by
  obtain ⟨ha,hd⟩:=ahead_at hn
  obtain ⟨h1,h2⟩:=two_at.1 ((tail_iff hn).1 ht).2.1
  have e:(s.take (n + 10)).drop n = 46 :: 32 :: (s.take (n + 10)).drop (n + 2):=by
    rw [List.drop_eq_getElem_cons (by rw [List.length_take];omega),List.drop_eq_getElem_cons (by rw [List.length_take];omega)]
    have e1:(s.take (n + 10))[n]? = some 46:=by rw [List.getElem?_take,if_pos (by omega)];exact h1
    have e2:(s.take (n + 10))[n + 1]? = some 32:=by rw [List.getElem?_take,if_pos (by omega)];exact h2
    rw [List.getElem?_eq_getElem (by rw [List.length_take];omega)] at e1 e2
    rw [Option.some.inj e1,Option.some.inj e2]
  rw [hd,ha,e]
  unfold sumT
  constructor
  · intro h
    exact ((List.cons.inj (List.cons.inj h).2).2).symm
  intro h
  rw [h]
theorem parse_prn {s:Key} {o:List Ep} (ht:tailOk s) (hs:(s.drop (s.length - 11)).take 10 = sumT (aheadT s)) (hr:runX (spl 10 (aheadT s)).dropLast = some o) (hw:Wd s.length o):parseT s = if printL o = (s,0) then (o,0) else ([],4):=by
  rw [parse_tB ht hs]
  split
  · rename_i h
    obtain ⟨h1,h2⟩:=printL_ok (l:=o) (by rw [h])
    rw [h] at h2
    have h2:s = textT o:=h2
    refine parseB_print (fun x hx=>?_) h1 ?_
    · obtain ⟨a,b,c,d⟩:=hw.e x hx
      exact ⟨⟨b.2.1,b.2.2⟩,fun y hy=>(d y hy).1⟩
    rw [h2]
    have h3:=(text_split o).1
    unfold aheadT
    rw [show (textT o).length - 11 = (bodyT o).length from by omega]
    unfold textT
    simp
  rename_i h
  rcases parseB_two (aheadT s) with h1 | h1
  · have h0:(parseB (aheadT s)).2 = 0:=by rw [h1]
    have h2:=runX_ok h0
    rw [hr] at h2
    obtain ⟨l,hl,h3,h4⟩:=parse_ok (s:=s) (by rw [parse_tB ht hs];exact h0)
    rw [parse_tB ht hs] at h4
    rw [h4] at h2
    cases h2
    exact absurd (by unfold printL;rw [if_pos hl.ok,h3]) h
  exact h1
theorem parse_fail {s:Key} (ht:tailOk s) (hs:(s.drop (s.length - 11)).take 10 = sumT (aheadT s)) {i:Nat} (hi:i + 1 < (spl 10 (aheadT s)).length) (h:runX ((spl 10 (aheadT s)).take (i + 1)) = none):parseT s = ([],4):=by
  rw [parse_tB ht hs]
  exact parseB_fail (runX_cut hi h)
theorem wrX_none {x:Key} (h:Lib.indexByte (x.drop 3) 34 = -1):wrX x = ⟨[],zeroV⟩:=by unfold wrX;rw [if_pos h]
theorem wrX_at {x:Key} {k:Nat} (h3:3≤k) (h:Lib.indexByte (x.drop 3) 34 = ((k - 3:Nat):Int)):wrX x = if x[0]? = some 45∨x.length < k + 2 then ⟨(unq ((x.take (k + 1)).drop 2)).1,zeroV⟩ else ⟨(unq ((x.take (k + 1)).drop 2)).1,(parseV (x.drop (k + 2))).1⟩:=by
  have e:endW x = ((k + 1:Nat):Int):=by unfold endW;omega
  unfold wrX
  rw [if_neg (by omega),e,show (((k + 1:Nat):Int)).toNat = k + 1 from by omega]
  by_cases h9:x[0]? = some 45∨x.length < k + 2
  · rw [if_pos h9,if_pos (h9.imp id fun h=>by omega)]
  rw [if_neg h9,if_neg fun h8=>h9 (h8.imp id fun h=>by omega)]
theorem idx_none {c:UInt8}:∀ {l:Key},(∀ d ∈ l,d ≠ c)→Lib.indexByte l c = -1
  | [],_=>rfl
  | d :: l,h=>by
    have h2:=idx_none (l:=l) fun e he=>h e (List.mem_cons_of_mem _ he)
    have h3:=h d (List.mem_cons_self ..)
    rw [Lib.indexByte,if_neg (by simpa using h3),h2]
    rfl
theorem idx3_none {x:Key} (h:∀ j d,3≤j→j < x.length→x[j]? = some d→d ≠ 34):Lib.indexByte (x.drop 3) 34 = -1:=idx_none fun d hd=>by
  obtain ⟨j,hj⟩:=List.mem_iff_getElem?.1 hd
  rw [List.getElem?_drop] at hj
  exact h (3 + j) d (by omega) (List.getElem?_eq_some_iff.1 hj).1 hj
theorem idx3_at {x:Key} {k:Nat} (h3:3≤k) (h:∀ j d,3≤j→j < k→x[j]? = some d→d ≠ 34) (hk:x[k]? = some 34):Lib.indexByte (x.drop 3) 34 = ((k - 3:Nat):Int):=by
  refine idx_first (fun j d hj hd=>?_) ?_
  · rw [List.getElem?_drop] at hd
    exact h (3 + j) d (by omega) (by omega) hd
  rw [List.getElem?_drop,show 3 + (k - 3) = k from by omega]
  exact hk
theorem numF_take {s:Key} {k:Nat} {c:UInt8} (h:s[k]? = some c):numF (s.take (k + 1)) = dstep (numF (s.take k)) c:=by
  rw [List.take_add_one,h]
  exact numF_snoc _ _
theorem numX_bad {s:Key} {k:Nat} {c:UInt8} (h:s[k]? = some c) (hb:¬ (48≤c.toNat∧c.toNat≤57∧s.length≤19)):numX s = 0:=by
  unfold numX
  rw [if_neg]
  rintro ⟨h1,h2⟩
  have:=of_decide_eq_true (List.all_eq_true.1 h1 c (List.mem_of_getElem? h))
  exact hb ⟨this.1,this.2,h2⟩
theorem numX_end {s:Key} (h:∀ j c,j < s.length→s[j]? = some c→48≤c.toNat∧c.toNat≤57) (hl:0 < s.length→s.length≤19):numX s = numF s:=by
  unfold numX
  rw [if_pos]
  refine ⟨List.all_eq_true.2 fun c hc=>?_,by omega⟩
  obtain ⟨j,hj⟩:=List.mem_iff_getElem?.1 hc
  exact decide_eq_true (h j c (List.getElem?_eq_some_iff.1 hj).1 hj)
theorem stepX_four {o:List Ep} {x:Key} (h:2 < x.length∧x[0]? = some 64) (hl:(spl 32 x).length ≠ 4):stepX o x = none:=by
  unfold stepX
  rw [if_pos h]
  split
  · rename_i a b c d h1
    rw [h1] at hl
    exact absurd rfl hl
  rfl
theorem stepX_h {o:List Ep} {x p0 p1 p2 p3:Key} (h:2 < x.length∧x[0]? = some 64) (hs:spl 32 x = [p0,p1,p2,p3]):stepX o x = some (o++[⟨txnX p2,stX p1,[]⟩]):=by
  unfold stepX
  rw [if_pos h,hs]
theorem stepX_short {o:List Ep} {x:Key} (h:¬ (2 < x.length∧x[0]? = some 64)) (h1:o = []∨x.length < 2):stepX o x = none:=by
  unfold stepX
  rw [if_neg h,if_pos h1]
theorem stepX_w {o:List Ep} {x:Key} (h:¬ (2 < x.length∧x[0]? = some 64)) (h1:o ≠ []) (h2:2≤x.length):stepX o x = some (addW o (wrX x)):=by
  unfold stepX
  rw [if_neg h,if_neg]
  rintro (h9 | h9)
  · exact h1 h9
  omega
theorem lsum_lt {L:List Key} {i:Nat} (h:i + 1≤L.length):lsum (L.take i) + 1≤lsum L:=by
  have h1:=lsum_take (L:=L) (i:=i) (x:=L[i]) (List.getElem?_eq_getElem (by omega))
  omega
theorem Wd.mono {n m:Nat} {o:List Ep} (h:Wd n o) (hm:n≤m):Wd m o:=⟨by have:=h.w;omega,by have:=h.l;omega,fun p hp=>by
  obtain ⟨a,b,c,d⟩:=h.e p hp
  exact ⟨a,b,by omega,fun y hy=>by have:=d y hy;omega⟩⟩
structure RJ (s:List UInt8) (k d:Nat) (ns:List Int) (i:Nat):Prop where
  all:rdAll (some ⟨0,0,[0,0,0]⟩) (s.take i) = some ⟨k,d,ns⟩
  ile:i≤s.length
  kle:k≤2
  dle:d≤16
  len:ns.length = 3
  bnd:∀ v ∈ ns,0≤v∧v < 10000000000000000
  low:ns.getD k 0 < ((10 ^ d:Nat):Int)
  zero:∀ j,k < j→ns.getD j 0 = 0
theorem RJ.init (s:List UInt8):RJ s 0 0 [0,0,0] 0:=⟨rfl,Nat.zero_le _,by decide,by decide,rfl,by simp,by decide,fun j hj=>by
  match j,hj with
  | 1,_=>rfl
  | 2,_=>rfl
  | j + 3,_=>rfl⟩
theorem RJ.dot {s:List UInt8} {k d:Nat} {ns:List Int} {i:Nat} (h:RJ s k d ns i) {c:UInt8} (hc:s[i]? = some c) (h1:c.toNat = 46∧0 < d∧k < 2):RJ s (k + 1) 0 ns (i + 1):=by
  have hi:=(List.getElem?_eq_some_iff.1 hc).1
  refine ⟨?_,by omega,by omega,by decide,h.len,h.bnd,by rw [h.zero (k + 1) (by omega)];decide,fun j hj=>h.zero j (by omega)⟩
  rw [rdAll_snoc hc,h.all]
  simp only [Option.bind_some,rd]
  rw [if_pos h1]
theorem RJ.dig {s:List UInt8} {k d:Nat} {ns:List Int} {i:Nat} (h:RJ s k d ns i) {c:UInt8} (hc:s[i]? = some c) (h0:¬ (c.toNat = 46∧0 < d∧k < 2)) (h1:(48≤c.toNat∧c.toNat≤57)∧d < 16) :
    0≤ns.getD k 0∧ns.getD k 0 < 1000000000000000∧RJ s k (d + 1) (ns.set k (10 * ns.getD k 0 + ((c.toNat - 48:Nat):Int))) (i + 1):=by
  have hi:=(List.getElem?_eq_some_iff.1 hc).1
  have hk:k < ns.length:=by have:=h.len;have:=h.kle;omega
  have hlow:=h.low
  have hp:(10 ^ d:Nat)≤10 ^ 15:=Nat.pow_le_pow_right (by decide) (by omega)
  have h15:(10 ^ 15:Nat) = 1000000000000000:=by decide
  have hge:0≤ns.getD k 0:=by
    have e9:ns.getD k 0 = ns[k]:=by simp [List.getD,hk]
    rw [e9]
    exact (h.bnd _ (List.getElem_mem hk)).1
  have hget:∀ v:Int,(ns.set k v).getD k 0 = v:=fun v=>by simp [List.getD,hk]
  have hps:(10 ^ (d + 1):Nat) = 10 * 10 ^ d:=by rw [Nat.pow_succ,Nat.mul_comm]
  refine ⟨hge,by omega,?_,by omega,h.kle,by omega,by simp [h.len],fun v hv=>?_,?_,fun j hj=>?_⟩
  · rw [rdAll_snoc hc,h.all]
    simp only [Option.bind_some,rd]
    rw [if_neg h0,if_pos h1]
  · rcases List.mem_or_eq_of_mem_set hv with h2 | h2
    · exact h.bnd v h2
    subst h2;omega
  · rw [hget,hps];omega
  have:=h.zero j hj
  simp only [List.getD] at this ⊢
  rw [List.getElem?_set_ne (by omega)]
  exact this
theorem RJ.dead {s:List UInt8} {k d:Nat} {ns:List Int} {i:Nat} (h:RJ s k d ns i) {c:UInt8} (hc:s[i]? = some c) (h0:¬ (c.toNat = 46∧0 < d∧k < 2)) (h1:¬ ((48≤c.toNat∧c.toNat≤57)∧d < 16)) (t:Stp) (ht:mayS t = true):s ≠ printS t:=fun hs=>by
  obtain ⟨d',h9⟩:=rd_print t ht
  rw [← hs,rdAll_dead hc h.all (by simp only [rd];rw [if_neg h0,if_neg h1])] at h9
  cases h9
theorem RJ.fin {s:List UInt8} {k d:Nat} {ns:List Int} (h:RJ s k d ns s.length) {a b c:Int} (hn:ns = [a,b,c]) (t:Stp) (ht:mayS t = true) (hs:s = printS t):t = ⟨a,b,c⟩:=by
  obtain ⟨d',h9⟩:=rd_print t ht
  have h8:=h.all
  rw [List.take_length,hs,h9] at h8
  simp only [Option.some.injEq,RS.mk.injEq] at h8
  have h7:=h8.2.2
  rw [hn] at h7
  simp only [List.cons.injEq,and_true] at h7
  obtain ⟨x,y,z⟩:=t
  simp only at h7
  rw [h7.1,h7.2.1,h7.2.2]
theorem xHParse_calls (s:List UInt8) (hs:s.length≤30000) (w:World):Calls Tryz.prog 45 #[.string ⟨s.toArray⟩] w fun e w'=>∃ x y z r,e = .returned (.tuple #[.agg #[.int .i64 x,.int .i64 y,.int .i64 z],.int .i64 r])∧Parsed s x y z r∧Ext No w w':=by
  refine calls_into func45 rfl ntmps45 rfl fun _ T=> ?_;replace T:=T.keep [0] rfl;have H:Sx.Hp w (Sx.No) w []:=Sx.Hp.start _ _;refine sj (zz 0 [uu,tt]) rfl fun _ Q1=>?_;refine st_eff T rfl rfl rfl rfl (y_alloc T rfl ti28 rfl _) ?_;clear T;rintro _ w1 ⟨b1,rfl,N⟩ a T;replace H:=H.new N;clear N;refine asn T rfl fun _ T=> ?_;revert Q1 T;refine rg [3,2,0] (zz 0 [uu]) rfl fun _ Q2 T=>?_;refine st_eff T rfl rfl rfl rfl (y_alloc T rfl ti110 rfl _) ?_;clear T;rintro _ w2 ⟨b2,rfl,N⟩ a T;replace H:=H.new N;clear N;revert Q2 T;refine rg [4,3,2,0] (zz 0 [tt]) rfl fun _ Q3 T=>?_;refine asn T rfl fun _ T=> ?_;revert Q3 T;refine rg [5,4,3,2,0] (zz 0 [tt]) rfl fun _ Q4 T=>?_;refine asn T rfl fun _ T=> ?_;revert Q4 T;refine rq [6,5,4,3,2,0] rfl fun _ Q5 T=>?_;refine sj (zz 0 [tt]) rfl fun _ Q6=>?_
  refine asn T rfl fun _ T=> ?_;revert Q6 T;refine rp [7,6,5,4,3,2,0] rfl fun T=>?_;refine wp_block ?_;refine wp_loopH (G:=Nat × Nat × List Int × Nat) (fun ⟨k,d,ns,i⟩=>[(5,.int .i64 (k:Int)),(6,.int .i64 (d:Int)),(7,.int .i64 (i:Int))]) (fun ⟨k,d,ns,i⟩=>[cB b2 (arr ns) 110]) (fun ⟨k,d,ns,i⟩=>RJ s k d ns i) (fun ⟨k,d,ns,i⟩=>s.length - i) (0,0,[0,0,0],0) (T.keep [5,6,7,4,2,0] rfl) (H.keep [0,1] rfl rfl) (RJ.init s) ?_;clear T H;rintro ⟨k,d,ns,i⟩ a w3 hJ T H;replace T:=T.keep [5,6,7,4,2,0] rfl;replace H:=H.keep [0,1] rfl rfl;have hj:RJ s k d ns i:=hJ;have hjk:=hj.kle;have hjd:=hj.dle;have hji:=hj.ile;refine wp_seq_k fun _ Q7=>?_;refine sj (zz 0 [tt,tt,tt,tt]) rfl fun _ Q8=>?_;refine mv T rfl fun _ T=> mv T rfl fun _ T=> tls T underlying9 rfl fun _ T=> tlt T rfl fun _ T=> ?_;revert Q8 T;refine rif [13,5,6,7,4,2,0] rfl (fun T hc9=>?_) (fun T hc9=>?_)
  · try simp only [bq] at hc9
    obtain ⟨ch,hix⟩:∃ o,s[i]? = some o:=⟨_,List.getElem?_eq_getElem (by omega)⟩;refine wp_skip ?_;revert Q7;refine nx fun _ Q10=>?_;refine wp_block ?_;refine sj (zz 0 [tt,tt,tt,tt]) rfl fun _ Q11=>?_;refine mv T rfl fun _ T=> mv T rfl fun _ T=> ?_;refine tk T rfl (x_indexStr T rfl underlying9 rfl rfl rfl hix) fun _ T=> asn T rfl fun _ T=> ?_;revert Q11 T;refine rp [8,13,5,6,7,4,2,0] rfl fun T=>?_;refine wp_block ?_;refine sj (zz 0 [tt,tt,tt,tt,tt,tt,tt,tt,tt,tt,tt]) rfl fun _ Q12=>?_;refine mv T rfl fun _ T=> teq T rfl fun _ T=> mv T rfl fun _ T=> ?_;refine Sl.two T 23 rfl (fun hc13 T=>?_) (fun hc13 T=>?_)
    · try simp only [bq] at hc13
      refine mv T rfl fun _ T=> tgt T rfl fun _ T=> pt T rfl fun _ T=> mv T rfl fun _ T=> ?_;refine Sl.two T 27 rfl (fun hc14 T=>?_) (fun hc14 T=>?_)
      · try simp only [bq] at hc14
        refine mv T rfl fun _ T=> tlt T rfl fun _ T=> pt T rfl fun _ T=> asn T rfl fun _ T=> ?_;revert Q12 T;refine rif [20,8,13,5,6,7,4,2,0] rfl (fun T hc15=>?_) (fun T hc15=>?_)
        · try simp only [bq] at hc15
          refine sj (zz 0 [tt,tt,tt]) rfl fun _ Q16=>?_;refine mv T rfl fun _ T=> tad T rfl (by omega) fun _ T=> asn T rfl fun _ T=> ?_;revert Q16 T;refine rp [5,20,8,13,6,7,4,2,0] rfl fun T=>?_;refine wp_text (zz 0 [tt]) rfl ?_;refine asn T rfl fun _ T=> ?_;replace T:=T.keep [6,5,20,8,13,7,4,2,0] rfl;refine ser_nil ?_;refine block_normal <| block_normal ?_;refine then_normal (Q10 _ _ ?_);clear Q10;refine wp_text (zz 0 [tt,tt,tt]) rfl ?_;refine mv T rfl fun _ T=> tad T rfl (by omega) fun _ T=> asn T rfl fun _ T=> ?_;replace T:=T.keep [7,6,5,20,8,13,4,2,0] rfl;refine ser_nil ?_;refine then_normal ?_;exact ⟨(k + 1,0,ns,i + 1),hj.dot hix (by omega),(T.keep [5,6,7,4,2,0] rfl),(H.keep [0,1] rfl rfl),by show _ - (i + 1) < _ - i;omega⟩
        try simp only [bq] at hc15
        refine sj (zz 0 [tt,tt,tt,tt,tt,tt,tt,tt,tt,tt,tt]) rfl fun _ Q17=>?_;refine mv T rfl fun _ T=> tge T rfl fun _ T=> mv T rfl fun _ T=> ?_;refine Sl.two T 36 rfl (fun hc18 T=>?_) (fun hc18 T=>?_)
        · try simp only [bq] at hc18
          refine mv T rfl fun _ T=> tle T rfl fun _ T=> pt T rfl fun _ T=> mv T rfl fun _ T=> ?_;refine Sl.two T 40 rfl (fun hc19 T=>?_) (fun hc19 T=>?_)
          · try simp only [bq] at hc19
            refine mv T rfl fun _ T=> tlt T rfl fun _ T=> pt T rfl fun _ T=> asn T rfl fun _ T=> ?_;revert Q17 T;refine rif [33,20,8,13,5,6,7,4,2,0] rfl (fun T hc20=>?_) (fun T hc20=>?_)
            · try simp only [bq] at hc20
              refine wp_seq_k fun _ Q21=>?_;obtain ⟨hn0,hn1,hj2⟩:=hj.dig hix (by omega) (by omega);refine wp_text (zz 0 [tt,tt,tt,uu,tt,tt,tt,tt,tt,tt,uu]) rfl ?_;refine mv T rfl fun _ T=> mv T rfl fun _ T=> ?_;refine tk T rfl (x_indexAddr_array (k:=k) T rfl underlying110 ti3 rfl rfl rfl (by omega)) fun _ T=> ?_;refine rn T rfl (x_load1 T rfl fl3 rfl ((H.blk 0 rfl).cell (by rw [show 0 + k * 1 = k from by omega];exact arr_get k (by omega)))) fun _ T=> tml T rfl (by omega) fun _ T=> mv T rfl fun _ T=> ?_;refine tk T rfl ((fun w=>x_sub w T rfl rfl rfl (wrap8 (by omega)))) fun _ T=> ?_;refine tk T rfl ((fun w=>x_toint w T rfl underlying5 underlying3 rfl (wrap64 (by omega)))) fun _ T=> tad T rfl (by omega) fun _ T=> ?_;refine tk T rfl (x_indexAddr_array (k:=k) T rfl underlying110 ti3 rfl rfl rfl (by omega)) fun _ T=> ?_;refine st_act T rfl rfl rfl (x_store1 T rfl ti3 rfl rfl rfl (H.blk 0 rfl) (by simp [arr];omega)) ?_
              rintro w4 ⟨hb,E,_⟩;replace H:=H.setB 0 rfl hb E rfl;clear hb E;rw [show (ch.toNat:Int) - 48 = ((ch.toNat - 48:Nat):Int) from by omega,show 0 + k * 1 = k from by omega,arr_set3 hj.len k (by omega)] at H;revert Q21 T;refine rp [33,20,8,13,5,6,7,4,2,0] rfl fun T=>?_;refine wp_text (zz 0 [tt,tt,tt]) rfl ?_;refine mv T rfl fun _ T=> tad T rfl (by omega) fun _ T=> asn T rfl fun _ T=> ?_;replace T:=T.keep [6,33,20,8,13,5,7,4,2,0] rfl;refine ser_nil ?_;refine block_normal <| block_normal ?_;refine then_normal (Q10 _ _ ?_);clear Q10;refine wp_text (zz 0 [tt,tt,tt]) rfl ?_;refine mv T rfl fun _ T=> tad T rfl (by omega) fun _ T=> asn T rfl fun _ T=> ?_;replace T:=T.keep [7,6,33,20,8,13,5,4,2,0] rfl;refine ser_nil ?_;refine then_normal ?_;exact ⟨(k,d + 1,ns.set k (10 * ns.getD k 0 + ((ch.toNat - 48:Nat):Int)),i + 1),hj2,(T.keep [5,6,7,4,2,0] rfl),(H.keep [0,1] rfl rfl),by show _ - (i + 1) < _ - i;omega⟩
            try simp only [bq] at hc20
            refine sj (zz 0 [tt,uu,tt]) rfl fun _ Q22=>?_;refine bd T bld28 rfl fun _ T=> ?_;refine stS 1 T H ti28 rfl rfl fun w5 H=>?_;refine asn T rfl fun _ T=> ?_;revert Q22 T;refine rp [3,33,20,8,13,5,6,7,4,2,0] rfl fun T=>?_;refine wp_ret <| block_ret ?_;refine block_ret <| then_ret ?_;refine then_ret <| block_ret <| then_ret ?_;refine dc2 (k:=3) Tryz.f45 T underlying28 ti28 (H.blk 1 rfl) rfl rfl ?_;exact ⟨0,0,0,4,rfl,.inr ⟨rfl,rfl,rfl,rfl,fun t ht=>hj.dead hix (by omega) (by omega) t ht⟩,H.ext⟩
          try simp only [bq] at hc19
          refine sk T rfl fun _ T=> sk T rfl fun _ T=> pf T rfl fun _ T=> asn T rfl fun _ T=> ?_;replace T:=T.keep [33,20,8,13,5,6,7,4,2,0] rfl;refine ser_nil ?_;refine then_normal (Q17 _ _ ?_);clear Q17;refine wp_if T rfl (fun h=>by cases h) (fun _=>?_);refine sj (zz 0 [tt,uu,tt]) rfl fun _ Q23=>?_;refine bd T bld28 rfl fun _ T=> ?_;refine stS 1 T H ti28 rfl rfl fun w6 H=>?_;refine asn T rfl fun _ T=> ?_;revert Q23 T;refine rp [3,33,20,8,13,5,6,7,4,2,0] rfl fun T=>?_;refine wp_ret <| block_ret ?_;refine block_ret <| then_ret ?_;refine then_ret <| block_ret <| then_ret ?_;refine dc2 (k:=3) Tryz.f45 T underlying28 ti28 (H.blk 1 rfl) rfl rfl ?_;exact ⟨0,0,0,4,rfl,.inr ⟨rfl,rfl,rfl,rfl,fun t ht=>hj.dead hix (by omega) (by omega) t ht⟩,H.ext⟩
        try simp only [bq] at hc18
        refine sk T rfl fun _ T=> sk T rfl fun _ T=> pf T rfl fun _ T=> mv T rfl fun _ T=> sk T rfl fun _ T=> sk T rfl fun _ T=> pf T rfl fun _ T=> asn T rfl fun _ T=> ?_;replace T:=T.keep [33,20,8,13,5,6,7,4,2,0] rfl;refine ser_nil ?_;refine then_normal (Q17 _ _ ?_);clear Q17;refine wp_if T rfl (fun h=>by cases h) (fun _=>?_);refine sj (zz 0 [tt,uu,tt]) rfl fun _ Q24=>?_;refine bd T bld28 rfl fun _ T=> ?_;refine stS 1 T H ti28 rfl rfl fun w7 H=>?_;refine asn T rfl fun _ T=> ?_;revert Q24 T;refine rp [3,33,20,8,13,5,6,7,4,2,0] rfl fun T=>?_;refine wp_ret <| block_ret ?_;refine block_ret <| then_ret ?_;refine then_ret <| block_ret <| then_ret ?_;refine dc2 (k:=3) Tryz.f45 T underlying28 ti28 (H.blk 1 rfl) rfl rfl ?_
        exact ⟨0,0,0,4,rfl,.inr ⟨rfl,rfl,rfl,rfl,fun t ht=>hj.dead hix (by omega) (by omega) t ht⟩,H.ext⟩
      try simp only [bq] at hc14
      refine sk T rfl fun _ T=> sk T rfl fun _ T=> pf T rfl fun _ T=> asn T rfl fun _ T=> ?_;replace T:=T.keep [20,8,13,5,6,7,4,2,0] rfl;refine ser_nil ?_;refine then_normal (Q12 _ _ ?_);clear Q12;refine wp_if T rfl (fun h=>by cases h) (fun _=>?_);refine sj (zz 0 [tt,tt,tt,tt,tt,tt,tt,tt,tt,tt,tt]) rfl fun _ Q25=>?_;refine mv T rfl fun _ T=> tge T rfl fun _ T=> mv T rfl fun _ T=> ?_;refine Sl.two T 36 rfl (fun hc26 T=>?_) (fun hc26 T=>?_)
      · try simp only [bq] at hc26
        refine mv T rfl fun _ T=> tle T rfl fun _ T=> pt T rfl fun _ T=> mv T rfl fun _ T=> ?_;refine Sl.two T 40 rfl (fun hc27 T=>?_) (fun hc27 T=>?_)
        · try simp only [bq] at hc27
          refine mv T rfl fun _ T=> tlt T rfl fun _ T=> pt T rfl fun _ T=> asn T rfl fun _ T=> ?_;revert Q25 T;refine rif [33,20,8,13,5,6,7,4,2,0] rfl (fun T hc28=>?_) (fun T hc28=>?_)
          · try simp only [bq] at hc28
            refine wp_seq_k fun _ Q29=>?_;obtain ⟨hn0,hn1,hj2⟩:=hj.dig hix (by omega) (by omega);refine wp_text (zz 0 [tt,tt,tt,uu,tt,tt,tt,tt,tt,tt,uu]) rfl ?_;refine mv T rfl fun _ T=> mv T rfl fun _ T=> ?_;refine tk T rfl (x_indexAddr_array (k:=k) T rfl underlying110 ti3 rfl rfl rfl (by omega)) fun _ T=> ?_;refine rn T rfl (x_load1 T rfl fl3 rfl ((H.blk 0 rfl).cell (by rw [show 0 + k * 1 = k from by omega];exact arr_get k (by omega)))) fun _ T=> tml T rfl (by omega) fun _ T=> mv T rfl fun _ T=> ?_;refine tk T rfl ((fun w=>x_sub w T rfl rfl rfl (wrap8 (by omega)))) fun _ T=> ?_;refine tk T rfl ((fun w=>x_toint w T rfl underlying5 underlying3 rfl (wrap64 (by omega)))) fun _ T=> tad T rfl (by omega) fun _ T=> ?_;refine tk T rfl (x_indexAddr_array (k:=k) T rfl underlying110 ti3 rfl rfl rfl (by omega)) fun _ T=> ?_;refine st_act T rfl rfl rfl (x_store1 T rfl ti3 rfl rfl rfl (H.blk 0 rfl) (by simp [arr];omega)) ?_
            rintro w8 ⟨hb,E,_⟩;replace H:=H.setB 0 rfl hb E rfl;clear hb E;rw [show (ch.toNat:Int) - 48 = ((ch.toNat - 48:Nat):Int) from by omega,show 0 + k * 1 = k from by omega,arr_set3 hj.len k (by omega)] at H;revert Q29 T;refine rp [33,20,8,13,5,6,7,4,2,0] rfl fun T=>?_;refine wp_text (zz 0 [tt,tt,tt]) rfl ?_;refine mv T rfl fun _ T=> tad T rfl (by omega) fun _ T=> asn T rfl fun _ T=> ?_;replace T:=T.keep [6,33,20,8,13,5,7,4,2,0] rfl;refine ser_nil ?_;refine block_normal <| block_normal ?_;refine then_normal (Q10 _ _ ?_);clear Q10;refine wp_text (zz 0 [tt,tt,tt]) rfl ?_;refine mv T rfl fun _ T=> tad T rfl (by omega) fun _ T=> asn T rfl fun _ T=> ?_;replace T:=T.keep [7,6,33,20,8,13,5,4,2,0] rfl;refine ser_nil ?_;refine then_normal ?_;exact ⟨(k,d + 1,ns.set k (10 * ns.getD k 0 + ((ch.toNat - 48:Nat):Int)),i + 1),hj2,(T.keep [5,6,7,4,2,0] rfl),(H.keep [0,1] rfl rfl),by show _ - (i + 1) < _ - i;omega⟩
          try simp only [bq] at hc28
          refine sj (zz 0 [tt,uu,tt]) rfl fun _ Q30=>?_;refine bd T bld28 rfl fun _ T=> ?_;refine stS 1 T H ti28 rfl rfl fun w9 H=>?_;refine asn T rfl fun _ T=> ?_;revert Q30 T;refine rp [3,33,20,8,13,5,6,7,4,2,0] rfl fun T=>?_;refine wp_ret <| block_ret ?_;refine block_ret <| then_ret ?_;refine then_ret <| block_ret <| then_ret ?_;refine dc2 (k:=3) Tryz.f45 T underlying28 ti28 (H.blk 1 rfl) rfl rfl ?_;exact ⟨0,0,0,4,rfl,.inr ⟨rfl,rfl,rfl,rfl,fun t ht=>hj.dead hix (by omega) (by omega) t ht⟩,H.ext⟩
        try simp only [bq] at hc27
        refine sk T rfl fun _ T=> sk T rfl fun _ T=> pf T rfl fun _ T=> asn T rfl fun _ T=> ?_;replace T:=T.keep [33,20,8,13,5,6,7,4,2,0] rfl;refine ser_nil ?_;refine then_normal (Q25 _ _ ?_);clear Q25;refine wp_if T rfl (fun h=>by cases h) (fun _=>?_);refine sj (zz 0 [tt,uu,tt]) rfl fun _ Q31=>?_;refine bd T bld28 rfl fun _ T=> ?_;refine stS 1 T H ti28 rfl rfl fun w10 H=>?_;refine asn T rfl fun _ T=> ?_;revert Q31 T;refine rp [3,33,20,8,13,5,6,7,4,2,0] rfl fun T=>?_;refine wp_ret <| block_ret ?_;refine block_ret <| then_ret ?_;refine then_ret <| block_ret <| then_ret ?_;refine dc2 (k:=3) Tryz.f45 T underlying28 ti28 (H.blk 1 rfl) rfl rfl ?_;exact ⟨0,0,0,4,rfl,.inr ⟨rfl,rfl,rfl,rfl,fun t ht=>hj.dead hix (by omega) (by omega) t ht⟩,H.ext⟩
      try simp only [bq] at hc26
      refine sk T rfl fun _ T=> sk T rfl fun _ T=> pf T rfl fun _ T=> mv T rfl fun _ T=> sk T rfl fun _ T=> sk T rfl fun _ T=> pf T rfl fun _ T=> asn T rfl fun _ T=> ?_;replace T:=T.keep [33,20,8,13,5,6,7,4,2,0] rfl;refine ser_nil ?_;refine then_normal (Q25 _ _ ?_);clear Q25;refine wp_if T rfl (fun h=>by cases h) (fun _=>?_);refine sj (zz 0 [tt,uu,tt]) rfl fun _ Q32=>?_;refine bd T bld28 rfl fun _ T=> ?_;refine stS 1 T H ti28 rfl rfl fun w11 H=>?_;refine asn T rfl fun _ T=> ?_;revert Q32 T;refine rp [3,33,20,8,13,5,6,7,4,2,0] rfl fun T=>?_;refine wp_ret <| block_ret ?_;refine block_ret <| then_ret ?_;refine then_ret <| block_ret <| then_ret ?_;refine dc2 (k:=3) Tryz.f45 T underlying28 ti28 (H.blk 1 rfl) rfl rfl ?_
      exact ⟨0,0,0,4,rfl,.inr ⟨rfl,rfl,rfl,rfl,fun t ht=>hj.dead hix (by omega) (by omega) t ht⟩,H.ext⟩
    try simp only [bq] at hc13
    refine sk T rfl fun _ T=> sk T rfl fun _ T=> pf T rfl fun _ T=> mv T rfl fun _ T=> sk T rfl fun _ T=> sk T rfl fun _ T=> pf T rfl fun _ T=> asn T rfl fun _ T=> ?_;replace T:=T.keep [20,8,13,5,6,7,4,2,0] rfl;refine ser_nil ?_;refine then_normal (Q12 _ _ ?_);clear Q12;refine wp_if T rfl (fun h=>by cases h) (fun _=>?_);refine sj (zz 0 [tt,tt,tt,tt,tt,tt,tt,tt,tt,tt,tt]) rfl fun _ Q33=>?_;refine mv T rfl fun _ T=> tge T rfl fun _ T=> mv T rfl fun _ T=> ?_;refine Sl.two T 36 rfl (fun hc34 T=>?_) (fun hc34 T=>?_)
    · try simp only [bq] at hc34
      refine mv T rfl fun _ T=> tle T rfl fun _ T=> pt T rfl fun _ T=> mv T rfl fun _ T=> ?_;refine Sl.two T 40 rfl (fun hc35 T=>?_) (fun hc35 T=>?_)
      · try simp only [bq] at hc35
        refine mv T rfl fun _ T=> tlt T rfl fun _ T=> pt T rfl fun _ T=> asn T rfl fun _ T=> ?_;revert Q33 T;refine rif [33,20,8,13,5,6,7,4,2,0] rfl (fun T hc36=>?_) (fun T hc36=>?_)
        · try simp only [bq] at hc36
          refine wp_seq_k fun _ Q37=>?_;obtain ⟨hn0,hn1,hj2⟩:=hj.dig hix (by omega) (by omega);refine wp_text (zz 0 [tt,tt,tt,uu,tt,tt,tt,tt,tt,tt,uu]) rfl ?_;refine mv T rfl fun _ T=> mv T rfl fun _ T=> ?_;refine tk T rfl (x_indexAddr_array (k:=k) T rfl underlying110 ti3 rfl rfl rfl (by omega)) fun _ T=> ?_;refine rn T rfl (x_load1 T rfl fl3 rfl ((H.blk 0 rfl).cell (by rw [show 0 + k * 1 = k from by omega];exact arr_get k (by omega)))) fun _ T=> tml T rfl (by omega) fun _ T=> mv T rfl fun _ T=> ?_;refine tk T rfl ((fun w=>x_sub w T rfl rfl rfl (wrap8 (by omega)))) fun _ T=> ?_;refine tk T rfl ((fun w=>x_toint w T rfl underlying5 underlying3 rfl (wrap64 (by omega)))) fun _ T=> tad T rfl (by omega) fun _ T=> ?_;refine tk T rfl (x_indexAddr_array (k:=k) T rfl underlying110 ti3 rfl rfl rfl (by omega)) fun _ T=> ?_;refine st_act T rfl rfl rfl (x_store1 T rfl ti3 rfl rfl rfl (H.blk 0 rfl) (by simp [arr];omega)) ?_
          rintro w12 ⟨hb,E,_⟩;replace H:=H.setB 0 rfl hb E rfl;clear hb E;rw [show (ch.toNat:Int) - 48 = ((ch.toNat - 48:Nat):Int) from by omega,show 0 + k * 1 = k from by omega,arr_set3 hj.len k (by omega)] at H;revert Q37 T;refine rp [33,20,8,13,5,6,7,4,2,0] rfl fun T=>?_;refine wp_text (zz 0 [tt,tt,tt]) rfl ?_;refine mv T rfl fun _ T=> tad T rfl (by omega) fun _ T=> asn T rfl fun _ T=> ?_;replace T:=T.keep [6,33,20,8,13,5,7,4,2,0] rfl;refine ser_nil ?_;refine block_normal <| block_normal ?_;refine then_normal (Q10 _ _ ?_);clear Q10;refine wp_text (zz 0 [tt,tt,tt]) rfl ?_;refine mv T rfl fun _ T=> tad T rfl (by omega) fun _ T=> asn T rfl fun _ T=> ?_;replace T:=T.keep [7,6,33,20,8,13,5,4,2,0] rfl;refine ser_nil ?_;refine then_normal ?_;exact ⟨(k,d + 1,ns.set k (10 * ns.getD k 0 + ((ch.toNat - 48:Nat):Int)),i + 1),hj2,(T.keep [5,6,7,4,2,0] rfl),(H.keep [0,1] rfl rfl),by show _ - (i + 1) < _ - i;omega⟩
        try simp only [bq] at hc36
        refine sj (zz 0 [tt,uu,tt]) rfl fun _ Q38=>?_;refine bd T bld28 rfl fun _ T=> ?_;refine stS 1 T H ti28 rfl rfl fun w13 H=>?_;refine asn T rfl fun _ T=> ?_;revert Q38 T;refine rp [3,33,20,8,13,5,6,7,4,2,0] rfl fun T=>?_;refine wp_ret <| block_ret ?_;refine block_ret <| then_ret ?_;refine then_ret <| block_ret <| then_ret ?_;refine dc2 (k:=3) Tryz.f45 T underlying28 ti28 (H.blk 1 rfl) rfl rfl ?_;exact ⟨0,0,0,4,rfl,.inr ⟨rfl,rfl,rfl,rfl,fun t ht=>hj.dead hix (by omega) (by omega) t ht⟩,H.ext⟩
      try simp only [bq] at hc35
      refine sk T rfl fun _ T=> sk T rfl fun _ T=> pf T rfl fun _ T=> asn T rfl fun _ T=> ?_;replace T:=T.keep [33,20,8,13,5,6,7,4,2,0] rfl;refine ser_nil ?_;refine then_normal (Q33 _ _ ?_);clear Q33;refine wp_if T rfl (fun h=>by cases h) (fun _=>?_);refine sj (zz 0 [tt,uu,tt]) rfl fun _ Q39=>?_;refine bd T bld28 rfl fun _ T=> ?_;refine stS 1 T H ti28 rfl rfl fun w14 H=>?_;refine asn T rfl fun _ T=> ?_;revert Q39 T;refine rp [3,33,20,8,13,5,6,7,4,2,0] rfl fun T=>?_;refine wp_ret <| block_ret ?_;refine block_ret <| then_ret ?_;refine then_ret <| block_ret <| then_ret ?_;refine dc2 (k:=3) Tryz.f45 T underlying28 ti28 (H.blk 1 rfl) rfl rfl ?_;exact ⟨0,0,0,4,rfl,.inr ⟨rfl,rfl,rfl,rfl,fun t ht=>hj.dead hix (by omega) (by omega) t ht⟩,H.ext⟩
    try simp only [bq] at hc34
    refine sk T rfl fun _ T=> sk T rfl fun _ T=> pf T rfl fun _ T=> mv T rfl fun _ T=> sk T rfl fun _ T=> sk T rfl fun _ T=> pf T rfl fun _ T=> asn T rfl fun _ T=> ?_;replace T:=T.keep [33,20,8,13,5,6,7,4,2,0] rfl;refine ser_nil ?_;refine then_normal (Q33 _ _ ?_);clear Q33;refine wp_if T rfl (fun h=>by cases h) (fun _=>?_);refine sj (zz 0 [tt,uu,tt]) rfl fun _ Q40=>?_;refine bd T bld28 rfl fun _ T=> ?_;refine stS 1 T H ti28 rfl rfl fun w15 H=>?_;refine asn T rfl fun _ T=> ?_;revert Q40 T;refine rp [3,33,20,8,13,5,6,7,4,2,0] rfl fun T=>?_;refine wp_ret <| block_ret ?_;refine block_ret <| then_ret ?_;refine then_ret <| block_ret <| then_ret ?_;refine dc2 (k:=3) Tryz.f45 T underlying28 ti28 (H.blk 1 rfl) rfl rfl ?_
    exact ⟨0,0,0,4,rfl,.inr ⟨rfl,rfl,rfl,rfl,fun t ht=>hj.dead hix (by omega) (by omega) t ht⟩,H.ext⟩
  try simp only [bq] at hc9
  refine wp_exit <| then_exit ?_;refine then_exit <| block_exit ?_;revert Q5;refine nx fun _ Q41=>?_;obtain ⟨na,nb,nc,rfl⟩:∃ a b c,ns = [a,b,c]:=by
    match ns,hj.len with
    | [a,b,c],_=>exact ⟨a,b,c,rfl⟩
  obtain rfl:i = s.length:=by omega
  refine wp_text (zz 0 [tt,uu,tt,uu,tt,uu,tt,uu,uu]) rfl ?_;refine tk T rfl (x_indexAddr_array (k:=0) T rfl underlying110 ti3 rfl rfl rfl (by omega)) fun _ T=> tld T fl3 (H.blk 0 rfl) rfl fun _ T=> ?_;refine tk T rfl (x_indexAddr_array (k:=1) T rfl underlying110 ti3 rfl rfl rfl (by omega)) fun _ T=> tld T fl3 (H.blk 0 rfl) rfl fun _ T=> ?_;refine tk T rfl (x_indexAddr_array (k:=2) T rfl underlying110 ti3 rfl rfl rfl (by omega)) fun _ T=> tld T fl3 (H.blk 0 rfl) rfl fun _ T=> bd T bld28 rfl fun _ T=> ?_;refine st_eff T rfl rfl rfl rfl (y_alloc T rfl ti28 rfl _) ?_;clear T;rintro _ w16 ⟨b3,rfl,N⟩ a T;replace H:=H.new N;clear N;refine stS 0 T H ti28 rfl rfl fun w17 H=>?_;revert Q41 T;refine rq [9,13,5,6,7,4,2,0] rfl fun _ Q42 T=>?_;refine sj (zz 0 [uu,uu,tt,tt,uu,uu,tt,tt,tt]) rfl fun _ Q43=>?_;refine rn T rfl (y_loadS T rfl underlying28 ti28 rfl ((H.blk 0 rfl).seg (k:=3) rfl) (by rfl)) fun _ T=> ?_;refine cal T H can61 rfl (xMayS_calls ⟨na,nb,nc⟩ _) fun w18 H _ T=> nt T rfl fun _ T=> mv T rfl fun _ T=> ?_;refine Sl.two T 66 rfl (fun hc44 T=>?_) (fun hc44 T=>?_)
  · try simp only [bq] at hc44
    have hmy:=hc44;refine st_runskip T rfl rfl rfl rfl fun _ T=> ?_;refine st_runskip T rfl rfl rfl rfl fun _ T=> sk T rfl fun _ T=> sk T rfl fun _ T=> pt T rfl fun _ T=> ?_;replace T:=T.keep [71,9,13,5,6,7,4,2,0] rfl;refine ser_nil ?_;refine then_normal (Q43 _ _ ?_);clear Q43;refine wp_if T rfl (fun _=>?_) (fun h=>by cases h);refine sj (zz 0 [tt,uu,tt]) rfl fun _ Q45=>?_;refine bd T bld28 rfl fun _ T=> ?_;refine stS 2 T H ti28 rfl rfl fun w19 H=>?_;refine asn T rfl fun _ T=> ?_;revert Q45 T;refine rp [3,71,9,13,5,6,7,4,2,0] rfl fun T=>?_;refine wp_ret <| then_ret ?_;refine dc2 (k:=3) Tryz.f45 T underlying28 ti28 (H.blk 2 rfl) rfl rfl ?_;exact ⟨0,0,0,4,rfl,.inr ⟨rfl,rfl,rfl,rfl,fun t ht hs=>by have h9:=hj.fin rfl t ht hs;subst h9;exact absurd ht (by simpa using hmy)⟩,H.ext⟩
  try simp only [bq] at hc44
  have hmy:=hc44;refine rn T rfl (y_loadS T rfl underlying28 ti28 rfl ((H.blk 0 rfl).seg (k:=3) rfl) (by rfl)) fun _ T=> ?_;refine cal T H can64 rfl (xPrintS_calls ⟨na,nb,nc⟩ (by have h1:=hj.bnd na (by simp);have h2:=hj.bnd nb (by simp);have h3:=hj.bnd nc (by simp);unfold inS inInt;simp only;omega) _) fun w20 H _ T=> mv T rfl fun _ T=> tsn T rfl fun _ T=> pf T rfl fun _ T=> ?_;revert Q43 T;refine rif [71,9,13,5,6,7,4,2,0] rfl (fun T hc46=>?_) (fun T hc46=>?_)
  · try simp only [bq] at hc46
    try (have hpr:¬ stpT ⟨na,nb,nc⟩ = s:=hc46)
    refine sj (zz 0 [tt,uu,tt]) rfl fun _ Q47=>?_;refine bd T bld28 rfl fun _ T=> ?_;refine stS 2 T H ti28 rfl rfl fun w21 H=>?_;refine asn T rfl fun _ T=> ?_;revert Q47 T;refine rp [3,71,9,13,5,6,7,4,2,0] rfl fun T=>?_;refine wp_ret <| then_ret ?_;refine dc2 (k:=3) Tryz.f45 T underlying28 ti28 (H.blk 2 rfl) rfl rfl ?_;exact ⟨0,0,0,4,rfl,.inr ⟨rfl,rfl,rfl,rfl,fun t ht hs9=>by have h9:=hj.fin rfl t ht hs9;subst h9;exact hpr ((printS_stpT _).symm.trans hs9.symm)⟩,H.ext⟩
  try simp only [bq] at hc46
  have hpr:stpT ⟨na,nb,nc⟩ = s:=hc46;refine wp_skip ?_;revert Q42;refine nx fun _ Q48=>?_;refine wp_text (zz 0 [uu,uu,tt]) rfl ?_;refine rn T rfl (y_loadS T rfl underlying28 ti28 rfl ((H.blk 0 rfl).seg (k:=3) rfl) (by rfl)) fun _ T=> ?_;refine stS 2 T H ti28 rfl rfl fun w22 H=>?_;refine asn T rfl fun _ T=> ?_;revert Q48 T;refine rp [3,71,9,13,5,6,7,4,2,0] rfl fun T=>?_;refine wp_ret ?_;refine dc2 (k:=3) Tryz.f45 T underlying28 ti28 (H.blk 2 rfl) rfl rfl ?_;exact ⟨na,nb,nc,0,rfl,.inl ⟨rfl,by simpa using hmy,Eq.symm ((printS_stpT _).trans hpr)⟩,H.ext⟩
theorem xtail_calls (s:List UInt8) (hs:s.length≤100000000) (w:World):Calls Tryz.prog 43 #[.string ⟨s.toArray⟩] w fun e w'=>(tailOk s∧e = .returned (.int .i64 ((s.length:Int) - 11))∧Ext No w w')∨(¬ tailOk s∧e = .returned (.int .i64 (-1))∧Ext No w w'):=by
  refine calls_into func43 rfl ntmps43 rfl fun _ T=> ?_;replace T:=T.keep [0] rfl;have H:Sx.Hp w (Sx.No) w []:=Sx.Hp.start _ _;refine sj (zz 0 [tt]) rfl fun _ Q1=>?_;refine asn T rfl fun _ T=> ?_;revert Q1 T;refine rg [2,0] (zz 0 [tt,tt,tt,tt]) rfl fun _ Q2 T=>?_;refine mv T rfl fun _ T=> tls T underlying9 rfl fun _ T=> tsb T rfl (by omega) fun _ T=> asn T rfl fun _ T=> ?_;revert Q2 T;refine rq [3,2,0] rfl fun _ Q3 T=>?_;refine wp_seq_k fun _ Q4=>?_
  by_cases h11:11≤s.length
  · skip
    obtain ⟨n,hn⟩:∃ n:Nat,s.length = n + 11:=⟨s.length - 11,by omega⟩;rw [show (s.length:Int) - 11 = (n:Int) from by omega] at T;refine wp_text (zz 0 [tt,tt,tt,tt,tt,tt,tt,tt,tt,tt,tt,tt,tt,tt,tt,tt,tt,tt,tt,tt,tt,tt,tt,tt,tt,tt,tt,tt,tt,tt,tt,tt,tt,tt]) rfl ?_;refine mv T rfl fun _ T=> tlt T rfl fun _ T=> mv T rfl fun _ T=> ?_;refine Sl.two T 10 rfl (fun hc5 T=>?_) (fun hc5 T=>?_)
    · exfalso
      try simp only [bq] at hc5
      first | omega | (simp at hc5;done) | (simp at hc5;omega) | (simp_all;done) | (exfalso;simp_all;omega)
    try simp only [bq] at hc5
    refine mv T rfl fun _ T=> tgt T rfl fun _ T=> mv T rfl fun _ T=> ?_;refine Sl.two T 13 rfl (fun hc6 T=>?_) (fun hc6 T=>?_)
    · try simp only [bq] at hc6
      obtain ⟨p,hp⟩:∃ p,n = p + 1:=⟨n - 1,by omega⟩;obtain ⟨ch,hch⟩:∃ q9,s[p]? = some q9:=⟨_,List.getElem?_eq_getElem (by omega)⟩;refine mv T rfl fun _ T=> mv T rfl fun _ T=> tsb T rfl (by omega) fun _ T=> ?_;refine tk T rfl (x_indexStr (k:=p) T rfl underlying9 rfl rfl (by omega) hch) fun _ T=> tne T rfl fun _ T=> pt T rfl fun _ T=> pf T rfl fun _ T=> mv T rfl fun _ T=> ?_;refine Sl.two T 21 rfl (fun hc7 T=>?_) (fun hc7 T=>?_)
      · try simp only [bq] at hc7
        try (have hb2:=hc7)
        refine sk T rfl fun _ T=> sk T rfl fun _ T=> sk T rfl fun _ T=> sk T rfl fun _ T=> pt T rfl fun _ T=> mv T rfl fun _ T=> sk T rfl fun _ T=> sk T rfl fun _ T=> sk T rfl fun _ T=> sk T rfl fun _ T=> sk T rfl fun _ T=> pt T rfl fun _ T=> mv T rfl fun _ T=> sk T rfl fun _ T=> sk T rfl fun _ T=> sk T rfl fun _ T=> sk T rfl fun _ T=> sk T rfl fun _ T=> sk T rfl fun _ T=> pt T rfl fun _ T=> ?_;replace T:=T.keep [41,3,2,0] rfl;refine ser_nil ?_;refine then_normal (Q4 _ _ ?_);clear Q4;refine wp_if T rfl (fun _=>?_) (fun h=>by cases h);refine sj (zz 0 [tt]) rfl fun _ Q8=>?_;refine asn T rfl fun _ T=> ?_;revert Q8 T;refine rp [2,41,3,0] rfl fun T=>?_;refine wp_ret <| then_ret ?_;refine dn Tryz.f43 T rfl ?_;exact .inr ⟨(fun h9=>by
          obtain ⟨h1,h2,-,h4⟩:=(tail_iff hn).1 h9;obtain ⟨h2,h3⟩:=two_at.1 h2;rcases h1 with h1 | h1
          · omega
          rw [show n - 1 = p from by omega,hch] at h1;cases h1;exact hb2 rfl),rfl,H.ext⟩
      try simp only [bq] at hc7
      have hb2:n = 0∨s[n - 1]? = some 10:=.inr (by rw [show n - 1 = p from by omega,hch];exact congrArg some (u8_of (k:=10) (by decide) hc7));obtain ⟨ch2,hch2⟩:∃ q9,s[n]? = some q9:=⟨_,List.getElem?_eq_getElem (by omega)⟩;refine mv T rfl fun _ T=> mv T rfl fun _ T=> ?_;refine tk T rfl (x_indexStr (k:=n) T rfl underlying9 rfl rfl (by omega) hch2) fun _ T=> tne T rfl fun _ T=> pf T rfl fun _ T=> mv T rfl fun _ T=> ?_;refine Sl.two T 27 rfl (fun hc9 T=>?_) (fun hc9 T=>?_)
      · try simp only [bq] at hc9
        have hb3:=hc9;refine sk T rfl fun _ T=> sk T rfl fun _ T=> sk T rfl fun _ T=> sk T rfl fun _ T=> sk T rfl fun _ T=> pt T rfl fun _ T=> mv T rfl fun _ T=> sk T rfl fun _ T=> sk T rfl fun _ T=> sk T rfl fun _ T=> sk T rfl fun _ T=> sk T rfl fun _ T=> sk T rfl fun _ T=> pt T rfl fun _ T=> ?_;replace T:=T.keep [41,3,2,0] rfl;refine ser_nil ?_;refine then_normal (Q4 _ _ ?_);clear Q4;refine wp_if T rfl (fun _=>?_) (fun h=>by cases h);refine sj (zz 0 [tt]) rfl fun _ Q10=>?_;refine asn T rfl fun _ T=> ?_;revert Q10 T;refine rp [2,41,3,0] rfl fun T=>?_;refine wp_ret <| then_ret ?_;refine dn Tryz.f43 T rfl ?_;exact .inr ⟨(fun h9=>by
          obtain ⟨h1,h2,-,h4⟩:=(tail_iff hn).1 h9;obtain ⟨h2,h3⟩:=two_at.1 h2;rw [hch2] at h2;cases h2;exact hb3 rfl),rfl,H.ext⟩
      try simp only [bq] at hc9
      have hb3:s[n]? = some 46:=by rw [hch2];exact congrArg some (u8_of (k:=46) (by decide) hc9)
      obtain ⟨ch3,hch3⟩:∃ q9,s[n + 1]? = some q9:=⟨_,List.getElem?_eq_getElem (by omega)⟩;refine mv T rfl fun _ T=> mv T rfl fun _ T=> tad T rfl (by omega) fun _ T=> ?_;refine tk T rfl (x_indexStr (k:=n + 1) T rfl underlying9 rfl rfl (by omega) hch3) fun _ T=> tne T rfl fun _ T=> pf T rfl fun _ T=> mv T rfl fun _ T=> ?_;refine Sl.two T 34 rfl (fun hc11 T=>?_) (fun hc11 T=>?_)
      · try simp only [bq] at hc11
        have hb4:=hc11;refine sk T rfl fun _ T=> sk T rfl fun _ T=> sk T rfl fun _ T=> sk T rfl fun _ T=> sk T rfl fun _ T=> sk T rfl fun _ T=> pt T rfl fun _ T=> ?_;replace T:=T.keep [41,3,2,0] rfl;refine ser_nil ?_;refine then_normal (Q4 _ _ ?_);clear Q4;refine wp_if T rfl (fun _=>?_) (fun h=>by cases h);refine sj (zz 0 [tt]) rfl fun _ Q12=>?_;refine asn T rfl fun _ T=> ?_;revert Q12 T;refine rp [2,41,3,0] rfl fun T=>?_;refine wp_ret <| then_ret ?_;refine dn Tryz.f43 T rfl ?_;exact .inr ⟨(fun h9=>by
          obtain ⟨h1,h2,-,h4⟩:=(tail_iff hn).1 h9;obtain ⟨h2,h3⟩:=two_at.1 h2;rw [hch3] at h3;cases h3;exact hb4 rfl),rfl,H.ext⟩
      try simp only [bq] at hc11
      have hb4:s[n + 1]? = some 32:=by rw [hch3];exact congrArg some (u8_of (k:=32) (by decide) hc11)
      obtain ⟨ch4,hch4⟩:∃ q9,s[n + 10]? = some q9:=⟨_,List.getElem?_eq_getElem (by omega)⟩;refine mv T rfl fun _ T=> mv T rfl fun _ T=> tls T underlying9 rfl fun _ T=> tsb T rfl (by omega) fun _ T=> ?_;refine tk T rfl (x_indexStr (k:=n + 10) T rfl underlying9 rfl rfl (by omega) hch4) fun _ T=> tne T rfl fun _ T=> pf T rfl fun _ T=> ?_;revert Q4 T;refine rif [41,3,2,0] rfl (fun T hc13=>?_) (fun T hc13=>?_)
      · try simp only [bq] at hc13
        try (have hb5:=hc13)
        refine sj (zz 0 [tt]) rfl fun _ Q14=>?_;refine asn T rfl fun _ T=> ?_;revert Q14 T;refine rp [2,41,3,0] rfl fun T=>?_;refine wp_ret <| then_ret ?_;refine dn Tryz.f43 T rfl ?_;exact .inr ⟨(fun h9=>by
          obtain ⟨h1,h2,-,h4⟩:=(tail_iff hn).1 h9;obtain ⟨h2,h3⟩:=two_at.1 h2;rw [hch4] at h4;cases h4;exact hb5 rfl),rfl,H.ext⟩
      try simp only [bq] at hc13
      have hb5:s[n + 10]? = some 10:=by rw [hch4];exact congrArg some (u8_of (k:=10) (by decide) hc13)
      refine wp_skip ?_;revert Q3;refine nx fun _ Q15=>?_;refine sj (zz 0 [tt,tt,tt]) rfl fun _ Q16=>?_;refine mv T rfl fun _ T=> tad T rfl (by omega) fun _ T=> asn T rfl fun _ T=> ?_;revert Q16 T;refine rp [4,41,3,2,0] rfl fun T=>?_;refine wp_block ?_;refine wp_loopH (G:=Nat) (fun i=>[(4,.int .i64 (i:Int))]) (fun i=>[]) (fun i=>n + 2≤i∧i≤n + 10∧∀ j c,n + 2≤j→j < i→s[j]? = some c→hexB c = true) (fun i=>n + 10 - i) (n + 2) (T.keep [4,41,3,0] rfl) (H.keep [] rfl rfl) (⟨Nat.le_refl _,by omega,fun j c h1 h2=>by omega⟩) ?_;clear T H;rintro i a w1 hJ T H;replace T:=T.keep [4,41,3,0] rfl;replace H:=H.keep [] rfl rfl;obtain ⟨h0,h1,hsi⟩:=hJ;refine wp_seq_k fun _ Q17=>?_;refine sj (zz 0 [tt,tt,tt,tt]) rfl fun _ Q18=>?_;refine mv T rfl fun _ T=> mv T rfl fun _ T=> tad T rfl (by omega) fun _ T=> tlt T rfl ?_
      clear T;intro a T;revert Q18 T;refine rif [47,4,41,3,0] rfl (fun T hc19=>?_) (fun T hc19=>?_)
      · try simp only [bq] at hc19
        obtain ⟨ch5,hch5⟩:∃ q9,s[i]? = some q9:=⟨_,List.getElem?_eq_getElem (by omega)⟩;have hob:=ch5.toNat_lt;refine wp_skip ?_;revert Q17;refine nx fun _ Q20=>?_;refine wp_block ?_;refine sj (zz 0 [tt,tt,tt,tt,tt,tt,tt,tt,tt,tt,tt,tt,tt,tt,tt,tt,tt,tt,tt,tt,tt,tt,tt]) rfl fun _ Q21=>?_;refine mv T rfl fun _ T=> mv T rfl fun _ T=> ?_;refine tk T rfl (x_indexStr (k:=i) T rfl underlying9 rfl rfl (by omega) hch5) fun _ T=> tge T rfl fun _ T=> mv T rfl fun _ T=> ?_;refine Sl.two T 54 rfl (fun hc22 T=>?_) (fun hc22 T=>?_)
        · try simp only [bq] at hc22
          refine mv T rfl fun _ T=> mv T rfl fun _ T=> ?_;refine tk T rfl (x_indexStr (k:=i) T rfl underlying9 rfl rfl (by omega) hch5) fun _ T=> tle T rfl fun _ T=> pt T rfl fun _ T=> mv T rfl fun _ T=> ?_;refine Sl.two T 60 rfl (fun hc23 T=>?_) (fun hc23 T=>?_)
          · try simp only [bq] at hc23
            refine sk T rfl fun _ T=> sk T rfl fun _ T=> sk T rfl fun _ T=> sk T rfl fun _ T=> sk T rfl fun _ T=> sk T rfl fun _ T=> sk T rfl fun _ T=> sk T rfl fun _ T=> sk T rfl fun _ T=> sk T rfl fun _ T=> pt T rfl fun _ T=> nt T rfl fun _ T=> ?_;replace T:=T.keep [72,47,4,41,3,0] rfl;refine ser_nil ?_;refine then_normal (Q21 _ _ ?_);clear Q21;refine wp_if T rfl (fun h=>by cases h) (fun _=>?_);have hxo:hexB ch5 = true:=decide_eq_true (by omega);refine wp_skip <| block_normal ?_;refine then_normal (Q20 _ _ ?_);clear Q20;refine wp_text (zz 0 [tt,tt,tt]) rfl ?_;refine mv T rfl fun _ T=> tad T rfl (by omega) fun _ T=> asn T rfl fun _ T=> ?_;replace T:=T.keep [4,72,47,41,3,0] rfl;refine ser_nil ?_
            refine then_normal ?_;exact ⟨i + 1,⟨by omega,by omega,fun j c h8 h9 hc=>by
                  rcases Nat.lt_or_ge j i with h7 | h7
                  · exact hsi j c h8 h7 hc
                  obtain rfl:j = i:=by omega
                  rw [hch5] at hc;cases hc
                  exact hxo⟩,(T.keep [4,41,3,0] rfl),(H.keep [] rfl rfl),by omega⟩
          try simp only [bq] at hc23
          refine mv T rfl fun _ T=> mv T rfl fun _ T=> ?_;refine tk T rfl (x_indexStr (k:=i) T rfl underlying9 rfl rfl (by omega) hch5) fun _ T=> tge T rfl fun _ T=> mv T rfl fun _ T=> ?_;refine Sl.two T 65 rfl (fun hc24 T=>?_) (fun hc24 T=>?_)
          · try simp only [bq] at hc24
            refine mv T rfl fun _ T=> mv T rfl fun _ T=> ?_;refine tk T rfl (x_indexStr (k:=i) T rfl underlying9 rfl rfl (by omega) hch5) fun _ T=> tle T rfl fun _ T=> pt T rfl fun _ T=> pf T rfl fun _ T=> nt T rfl fun _ T=> ?_;revert Q21 T;refine rif [72,47,4,41,3,0] rfl (fun T hc25=>?_) (fun T hc25=>?_)
            · try simp only [bq] at hc25
              have hxo:hexB ch5 = false:=decide_eq_false (by omega);refine sj (zz 0 [tt]) rfl fun _ Q26=>?_;refine asn T rfl fun _ T=> ?_;revert Q26 T;refine rp [2,72,47,4,41,3,0] rfl fun T=>?_;refine wp_ret <| block_ret ?_;refine then_ret <| then_ret ?_;refine block_ret <| then_ret ?_;refine dn Tryz.f43 T rfl ?_;exact .inr ⟨(fun h9=>by
                have h3:=((tail_iff hn).1 h9).2.2.1;have h8:=List.all_eq_true.1 h3 ch5 (mid_at h0 (by omega) hch5);rw [hxo] at h8;cases h8),rfl,H.ext⟩
            try simp only [bq] at hc25
            have hxo:hexB ch5 = true:=decide_eq_true (by omega);refine wp_skip <| block_normal ?_;refine then_normal (Q20 _ _ ?_);clear Q20;refine wp_text (zz 0 [tt,tt,tt]) rfl ?_;refine mv T rfl fun _ T=> tad T rfl (by omega) fun _ T=> asn T rfl fun _ T=> ?_;replace T:=T.keep [4,72,47,41,3,0] rfl;refine ser_nil ?_;refine then_normal ?_;exact ⟨i + 1,⟨by omega,by omega,fun j c h8 h9 hc=>by
                  rcases Nat.lt_or_ge j i with h7 | h7
                  · exact hsi j c h8 h7 hc
                  obtain rfl:j = i:=by omega
                  rw [hch5] at hc;cases hc
                  exact hxo⟩,(T.keep [4,41,3,0] rfl),(H.keep [] rfl rfl),by omega⟩
          try simp only [bq] at hc24
          refine sk T rfl fun _ T=> sk T rfl fun _ T=> sk T rfl fun _ T=> sk T rfl fun _ T=> pf T rfl fun _ T=> pf T rfl fun _ T=> nt T rfl fun _ T=> ?_;replace T:=T.keep [72,47,4,41,3,0] rfl;refine ser_nil ?_;refine then_normal (Q21 _ _ ?_);clear Q21;refine wp_if T rfl (fun _=>?_) (fun h=>by cases h);have hxo:hexB ch5 = false:=decide_eq_false (by omega);refine sj (zz 0 [tt]) rfl fun _ Q27=>?_;refine asn T rfl fun _ T=> ?_;revert Q27 T;refine rp [2,72,47,4,41,3,0] rfl fun T=>?_;refine wp_ret <| block_ret ?_;refine then_ret <| then_ret ?_;refine block_ret <| then_ret ?_;refine dn Tryz.f43 T rfl ?_;exact .inr ⟨(fun h9=>by
            have h3:=((tail_iff hn).1 h9).2.2.1;have h8:=List.all_eq_true.1 h3 ch5 (mid_at h0 (by omega) hch5);rw [hxo] at h8;cases h8),rfl,H.ext⟩
        try simp only [bq] at hc22
        refine sk T rfl fun _ T=> sk T rfl fun _ T=> sk T rfl fun _ T=> sk T rfl fun _ T=> pf T rfl fun _ T=> mv T rfl fun _ T=> mv T rfl fun _ T=> mv T rfl fun _ T=> ?_;refine tk T rfl (x_indexStr (k:=i) T rfl underlying9 rfl rfl (by omega) hch5) fun _ T=> tge T rfl fun _ T=> mv T rfl fun _ T=> ?_;refine Sl.two T 65 rfl (fun hc28 T=>?_) (fun hc28 T=>?_)
        · try simp only [bq] at hc28
          refine mv T rfl fun _ T=> mv T rfl fun _ T=> ?_;refine tk T rfl (x_indexStr (k:=i) T rfl underlying9 rfl rfl (by omega) hch5) fun _ T=> tle T rfl fun _ T=> pt T rfl fun _ T=> pf T rfl fun _ T=> nt T rfl fun _ T=> ?_;revert Q21 T;refine rif [72,47,4,41,3,0] rfl (fun T hc29=>?_) (fun T hc29=>?_)
          · try simp only [bq] at hc29
            have hxo:hexB ch5 = false:=decide_eq_false (by omega);refine sj (zz 0 [tt]) rfl fun _ Q30=>?_;refine asn T rfl fun _ T=> ?_;revert Q30 T;refine rp [2,72,47,4,41,3,0] rfl fun T=>?_;refine wp_ret <| block_ret ?_;refine then_ret <| then_ret ?_;refine block_ret <| then_ret ?_;refine dn Tryz.f43 T rfl ?_;exact .inr ⟨(fun h9=>by
              have h3:=((tail_iff hn).1 h9).2.2.1;have h8:=List.all_eq_true.1 h3 ch5 (mid_at h0 (by omega) hch5);rw [hxo] at h8;cases h8),rfl,H.ext⟩
          try simp only [bq] at hc29
          have hxo:hexB ch5 = true:=decide_eq_true (by omega);refine wp_skip <| block_normal ?_;refine then_normal (Q20 _ _ ?_);clear Q20;refine wp_text (zz 0 [tt,tt,tt]) rfl ?_;refine mv T rfl fun _ T=> tad T rfl (by omega) fun _ T=> asn T rfl fun _ T=> ?_;replace T:=T.keep [4,72,47,41,3,0] rfl;refine ser_nil ?_;refine then_normal ?_;exact ⟨i + 1,⟨by omega,by omega,fun j c h8 h9 hc=>by
                rcases Nat.lt_or_ge j i with h7 | h7
                · exact hsi j c h8 h7 hc
                obtain rfl:j = i:=by omega
                rw [hch5] at hc;cases hc
                exact hxo⟩,(T.keep [4,41,3,0] rfl),(H.keep [] rfl rfl),by omega⟩
        try simp only [bq] at hc28
        refine sk T rfl fun _ T=> sk T rfl fun _ T=> sk T rfl fun _ T=> sk T rfl fun _ T=> pf T rfl fun _ T=> pf T rfl fun _ T=> nt T rfl fun _ T=> ?_;replace T:=T.keep [72,47,4,41,3,0] rfl;refine ser_nil ?_;refine then_normal (Q21 _ _ ?_);clear Q21;refine wp_if T rfl (fun _=>?_) (fun h=>by cases h);have hxo:hexB ch5 = false:=decide_eq_false (by omega);refine sj (zz 0 [tt]) rfl fun _ Q31=>?_;refine asn T rfl fun _ T=> ?_;revert Q31 T;refine rp [2,72,47,4,41,3,0] rfl fun T=>?_;refine wp_ret <| block_ret ?_;refine then_ret <| then_ret ?_;refine block_ret <| then_ret ?_;refine dn Tryz.f43 T rfl ?_;exact .inr ⟨(fun h9=>by
          have h3:=((tail_iff hn).1 h9).2.2.1;have h8:=List.all_eq_true.1 h3 ch5 (mid_at h0 (by omega) hch5);rw [hxo] at h8;cases h8),rfl,H.ext⟩
      try simp only [bq] at hc19
      obtain rfl:i = n + 10:=by omega
      refine wp_exit <| then_exit ?_;refine then_exit <| block_exit ?_;revert Q15;refine nx fun _ Q32=>?_;refine wp_text (zz 0 [tt,tt]) rfl ?_;refine mv T rfl fun _ T=> asn T rfl fun _ T=> ?_;revert Q32 T;refine rp [2,47,4,41,3,0] rfl fun T=>?_;refine wp_ret ?_;refine dn Tryz.f43 T rfl ?_;exact .inl ⟨(tail_iff hn).2 ⟨hb2,two_at.2 ⟨hb3,hb4⟩,mid_all fun j c h8 h9 hc=>hsi j c h8 (by omega) hc,hb5⟩,by rw [hn];congr 2;omega,H.ext⟩
    try simp only [bq] at hc6
    have hb2:n = 0∨s[n - 1]? = some 10:=.inl (by omega);obtain ⟨ch2,hch2⟩:∃ q9,s[n]? = some q9:=⟨_,List.getElem?_eq_getElem (by omega)⟩;refine sk T rfl fun _ T=> sk T rfl fun _ T=> sk T rfl fun _ T=> sk T rfl fun _ T=> sk T rfl fun _ T=> pf T rfl fun _ T=> pf T rfl fun _ T=> mv T rfl fun _ T=> mv T rfl fun _ T=> mv T rfl fun _ T=> ?_;refine tk T rfl (x_indexStr (k:=n) T rfl underlying9 rfl rfl (by omega) hch2) fun _ T=> tne T rfl fun _ T=> pf T rfl fun _ T=> mv T rfl fun _ T=> ?_;refine Sl.two T 27 rfl (fun hc33 T=>?_) (fun hc33 T=>?_)
    · try simp only [bq] at hc33
      have hb3:=hc33;refine sk T rfl fun _ T=> sk T rfl fun _ T=> sk T rfl fun _ T=> sk T rfl fun _ T=> sk T rfl fun _ T=> pt T rfl fun _ T=> mv T rfl fun _ T=> sk T rfl fun _ T=> sk T rfl fun _ T=> sk T rfl fun _ T=> sk T rfl fun _ T=> sk T rfl fun _ T=> sk T rfl fun _ T=> pt T rfl fun _ T=> ?_;replace T:=T.keep [41,3,2,0] rfl;refine ser_nil ?_;refine then_normal (Q4 _ _ ?_);clear Q4;refine wp_if T rfl (fun _=>?_) (fun h=>by cases h);refine sj (zz 0 [tt]) rfl fun _ Q34=>?_;refine asn T rfl fun _ T=> ?_;revert Q34 T;refine rp [2,41,3,0] rfl fun T=>?_;refine wp_ret <| then_ret ?_;refine dn Tryz.f43 T rfl ?_;exact .inr ⟨(fun h9=>by
        obtain ⟨h1,h2,-,h4⟩:=(tail_iff hn).1 h9;obtain ⟨h2,h3⟩:=two_at.1 h2;rw [hch2] at h2;cases h2;exact hb3 rfl),rfl,H.ext⟩
    try simp only [bq] at hc33
    have hb3:s[n]? = some 46:=by rw [hch2];exact congrArg some (u8_of (k:=46) (by decide) hc33)
    obtain ⟨ch3,hch3⟩:∃ q9,s[n + 1]? = some q9:=⟨_,List.getElem?_eq_getElem (by omega)⟩;refine mv T rfl fun _ T=> mv T rfl fun _ T=> tad T rfl (by omega) fun _ T=> ?_;refine tk T rfl (x_indexStr (k:=n + 1) T rfl underlying9 rfl rfl (by omega) hch3) fun _ T=> tne T rfl fun _ T=> pf T rfl fun _ T=> mv T rfl fun _ T=> ?_;refine Sl.two T 34 rfl (fun hc35 T=>?_) (fun hc35 T=>?_)
    · try simp only [bq] at hc35
      have hb4:=hc35;refine sk T rfl fun _ T=> sk T rfl fun _ T=> sk T rfl fun _ T=> sk T rfl fun _ T=> sk T rfl fun _ T=> sk T rfl fun _ T=> pt T rfl fun _ T=> ?_;replace T:=T.keep [41,3,2,0] rfl;refine ser_nil ?_;refine then_normal (Q4 _ _ ?_);clear Q4;refine wp_if T rfl (fun _=>?_) (fun h=>by cases h);refine sj (zz 0 [tt]) rfl fun _ Q36=>?_;refine asn T rfl fun _ T=> ?_;revert Q36 T;refine rp [2,41,3,0] rfl fun T=>?_;refine wp_ret <| then_ret ?_;refine dn Tryz.f43 T rfl ?_;exact .inr ⟨(fun h9=>by
        obtain ⟨h1,h2,-,h4⟩:=(tail_iff hn).1 h9;obtain ⟨h2,h3⟩:=two_at.1 h2;rw [hch3] at h3;cases h3;exact hb4 rfl),rfl,H.ext⟩
    try simp only [bq] at hc35
    have hb4:s[n + 1]? = some 32:=by rw [hch3];exact congrArg some (u8_of (k:=32) (by decide) hc35)
    obtain ⟨ch4,hch4⟩:∃ q9,s[n + 10]? = some q9:=⟨_,List.getElem?_eq_getElem (by omega)⟩;refine mv T rfl fun _ T=> mv T rfl fun _ T=> tls T underlying9 rfl fun _ T=> tsb T rfl (by omega) fun _ T=> ?_;refine tk T rfl (x_indexStr (k:=n + 10) T rfl underlying9 rfl rfl (by omega) hch4) fun _ T=> tne T rfl fun _ T=> pf T rfl fun _ T=> ?_;revert Q4 T;refine rif [41,3,2,0] rfl (fun T hc37=>?_) (fun T hc37=>?_)
    · try simp only [bq] at hc37
      try (have hb5:=hc37)
      refine sj (zz 0 [tt]) rfl fun _ Q38=>?_;refine asn T rfl fun _ T=> ?_;revert Q38 T;refine rp [2,41,3,0] rfl fun T=>?_;refine wp_ret <| then_ret ?_;refine dn Tryz.f43 T rfl ?_;exact .inr ⟨(fun h9=>by
        obtain ⟨h1,h2,-,h4⟩:=(tail_iff hn).1 h9;obtain ⟨h2,h3⟩:=two_at.1 h2;rw [hch4] at h4;cases h4;exact hb5 rfl),rfl,H.ext⟩
    try simp only [bq] at hc37
    have hb5:s[n + 10]? = some 10:=by rw [hch4];exact congrArg some (u8_of (k:=10) (by decide) hc37)
    refine wp_skip ?_;revert Q3;refine nx fun _ Q39=>?_;refine sj (zz 0 [tt,tt,tt]) rfl fun _ Q40=>?_;refine mv T rfl fun _ T=> tad T rfl (by omega) fun _ T=> asn T rfl fun _ T=> ?_;revert Q40 T;refine rp [4,41,3,2,0] rfl fun T=>?_;refine wp_block ?_;refine wp_loopH (G:=Nat) (fun i=>[(4,.int .i64 (i:Int))]) (fun i=>[]) (fun i=>n + 2≤i∧i≤n + 10∧∀ j c,n + 2≤j→j < i→s[j]? = some c→hexB c = true) (fun i=>n + 10 - i) (n + 2) (T.keep [4,41,3,0] rfl) (H.keep [] rfl rfl) (⟨Nat.le_refl _,by omega,fun j c h1 h2=>by omega⟩) ?_;clear T H;rintro i a w2 hJ T H;replace T:=T.keep [4,41,3,0] rfl;replace H:=H.keep [] rfl rfl;obtain ⟨h0,h1,hsi⟩:=hJ;refine wp_seq_k fun _ Q41=>?_;refine sj (zz 0 [tt,tt,tt,tt]) rfl fun _ Q42=>?_;refine mv T rfl fun _ T=> mv T rfl fun _ T=> tad T rfl (by omega) fun _ T=> tlt T rfl ?_
    clear T;intro a T;revert Q42 T;refine rif [47,4,41,3,0] rfl (fun T hc43=>?_) (fun T hc43=>?_)
    · try simp only [bq] at hc43
      obtain ⟨ch5,hch5⟩:∃ q9,s[i]? = some q9:=⟨_,List.getElem?_eq_getElem (by omega)⟩;have hob:=ch5.toNat_lt;refine wp_skip ?_;revert Q41;refine nx fun _ Q44=>?_;refine wp_block ?_;refine sj (zz 0 [tt,tt,tt,tt,tt,tt,tt,tt,tt,tt,tt,tt,tt,tt,tt,tt,tt,tt,tt,tt,tt,tt,tt]) rfl fun _ Q45=>?_;refine mv T rfl fun _ T=> mv T rfl fun _ T=> ?_;refine tk T rfl (x_indexStr (k:=i) T rfl underlying9 rfl rfl (by omega) hch5) fun _ T=> tge T rfl fun _ T=> mv T rfl fun _ T=> ?_;refine Sl.two T 54 rfl (fun hc46 T=>?_) (fun hc46 T=>?_)
      · try simp only [bq] at hc46
        refine mv T rfl fun _ T=> mv T rfl fun _ T=> ?_;refine tk T rfl (x_indexStr (k:=i) T rfl underlying9 rfl rfl (by omega) hch5) fun _ T=> tle T rfl fun _ T=> pt T rfl fun _ T=> mv T rfl fun _ T=> ?_;refine Sl.two T 60 rfl (fun hc47 T=>?_) (fun hc47 T=>?_)
        · try simp only [bq] at hc47
          refine sk T rfl fun _ T=> sk T rfl fun _ T=> sk T rfl fun _ T=> sk T rfl fun _ T=> sk T rfl fun _ T=> sk T rfl fun _ T=> sk T rfl fun _ T=> sk T rfl fun _ T=> sk T rfl fun _ T=> sk T rfl fun _ T=> pt T rfl fun _ T=> nt T rfl fun _ T=> ?_;replace T:=T.keep [72,47,4,41,3,0] rfl;refine ser_nil ?_;refine then_normal (Q45 _ _ ?_);clear Q45;refine wp_if T rfl (fun h=>by cases h) (fun _=>?_);have hxo:hexB ch5 = true:=decide_eq_true (by omega);refine wp_skip <| block_normal ?_;refine then_normal (Q44 _ _ ?_);clear Q44;refine wp_text (zz 0 [tt,tt,tt]) rfl ?_;refine mv T rfl fun _ T=> tad T rfl (by omega) fun _ T=> asn T rfl fun _ T=> ?_;replace T:=T.keep [4,72,47,41,3,0] rfl;refine ser_nil ?_
          refine then_normal ?_;exact ⟨i + 1,⟨by omega,by omega,fun j c h8 h9 hc=>by
                rcases Nat.lt_or_ge j i with h7 | h7
                · exact hsi j c h8 h7 hc
                obtain rfl:j = i:=by omega
                rw [hch5] at hc;cases hc
                exact hxo⟩,(T.keep [4,41,3,0] rfl),(H.keep [] rfl rfl),by omega⟩
        try simp only [bq] at hc47
        refine mv T rfl fun _ T=> mv T rfl fun _ T=> ?_;refine tk T rfl (x_indexStr (k:=i) T rfl underlying9 rfl rfl (by omega) hch5) fun _ T=> tge T rfl fun _ T=> mv T rfl fun _ T=> ?_;refine Sl.two T 65 rfl (fun hc48 T=>?_) (fun hc48 T=>?_)
        · try simp only [bq] at hc48
          refine mv T rfl fun _ T=> mv T rfl fun _ T=> ?_;refine tk T rfl (x_indexStr (k:=i) T rfl underlying9 rfl rfl (by omega) hch5) fun _ T=> tle T rfl fun _ T=> pt T rfl fun _ T=> pf T rfl fun _ T=> nt T rfl fun _ T=> ?_;revert Q45 T;refine rif [72,47,4,41,3,0] rfl (fun T hc49=>?_) (fun T hc49=>?_)
          · try simp only [bq] at hc49
            have hxo:hexB ch5 = false:=decide_eq_false (by omega);refine sj (zz 0 [tt]) rfl fun _ Q50=>?_;refine asn T rfl fun _ T=> ?_;revert Q50 T;refine rp [2,72,47,4,41,3,0] rfl fun T=>?_;refine wp_ret <| block_ret ?_;refine then_ret <| then_ret ?_;refine block_ret <| then_ret ?_;refine dn Tryz.f43 T rfl ?_;exact .inr ⟨(fun h9=>by
              have h3:=((tail_iff hn).1 h9).2.2.1;have h8:=List.all_eq_true.1 h3 ch5 (mid_at h0 (by omega) hch5);rw [hxo] at h8;cases h8),rfl,H.ext⟩
          try simp only [bq] at hc49
          have hxo:hexB ch5 = true:=decide_eq_true (by omega);refine wp_skip <| block_normal ?_;refine then_normal (Q44 _ _ ?_);clear Q44;refine wp_text (zz 0 [tt,tt,tt]) rfl ?_;refine mv T rfl fun _ T=> tad T rfl (by omega) fun _ T=> asn T rfl fun _ T=> ?_;replace T:=T.keep [4,72,47,41,3,0] rfl;refine ser_nil ?_;refine then_normal ?_;exact ⟨i + 1,⟨by omega,by omega,fun j c h8 h9 hc=>by
                rcases Nat.lt_or_ge j i with h7 | h7
                · exact hsi j c h8 h7 hc
                obtain rfl:j = i:=by omega
                rw [hch5] at hc;cases hc
                exact hxo⟩,(T.keep [4,41,3,0] rfl),(H.keep [] rfl rfl),by omega⟩
        try simp only [bq] at hc48
        refine sk T rfl fun _ T=> sk T rfl fun _ T=> sk T rfl fun _ T=> sk T rfl fun _ T=> pf T rfl fun _ T=> pf T rfl fun _ T=> nt T rfl fun _ T=> ?_;replace T:=T.keep [72,47,4,41,3,0] rfl;refine ser_nil ?_;refine then_normal (Q45 _ _ ?_);clear Q45;refine wp_if T rfl (fun _=>?_) (fun h=>by cases h);have hxo:hexB ch5 = false:=decide_eq_false (by omega);refine sj (zz 0 [tt]) rfl fun _ Q51=>?_;refine asn T rfl fun _ T=> ?_;revert Q51 T;refine rp [2,72,47,4,41,3,0] rfl fun T=>?_;refine wp_ret <| block_ret ?_;refine then_ret <| then_ret ?_;refine block_ret <| then_ret ?_;refine dn Tryz.f43 T rfl ?_;exact .inr ⟨(fun h9=>by
          have h3:=((tail_iff hn).1 h9).2.2.1;have h8:=List.all_eq_true.1 h3 ch5 (mid_at h0 (by omega) hch5);rw [hxo] at h8;cases h8),rfl,H.ext⟩
      try simp only [bq] at hc46
      refine sk T rfl fun _ T=> sk T rfl fun _ T=> sk T rfl fun _ T=> sk T rfl fun _ T=> pf T rfl fun _ T=> mv T rfl fun _ T=> mv T rfl fun _ T=> mv T rfl fun _ T=> ?_;refine tk T rfl (x_indexStr (k:=i) T rfl underlying9 rfl rfl (by omega) hch5) fun _ T=> tge T rfl fun _ T=> mv T rfl fun _ T=> ?_;refine Sl.two T 65 rfl (fun hc52 T=>?_) (fun hc52 T=>?_)
      · try simp only [bq] at hc52
        refine mv T rfl fun _ T=> mv T rfl fun _ T=> ?_;refine tk T rfl (x_indexStr (k:=i) T rfl underlying9 rfl rfl (by omega) hch5) fun _ T=> tle T rfl fun _ T=> pt T rfl fun _ T=> pf T rfl fun _ T=> nt T rfl fun _ T=> ?_;revert Q45 T;refine rif [72,47,4,41,3,0] rfl (fun T hc53=>?_) (fun T hc53=>?_)
        · try simp only [bq] at hc53
          have hxo:hexB ch5 = false:=decide_eq_false (by omega);refine sj (zz 0 [tt]) rfl fun _ Q54=>?_;refine asn T rfl fun _ T=> ?_;revert Q54 T;refine rp [2,72,47,4,41,3,0] rfl fun T=>?_;refine wp_ret <| block_ret ?_;refine then_ret <| then_ret ?_;refine block_ret <| then_ret ?_;refine dn Tryz.f43 T rfl ?_;exact .inr ⟨(fun h9=>by
            have h3:=((tail_iff hn).1 h9).2.2.1;have h8:=List.all_eq_true.1 h3 ch5 (mid_at h0 (by omega) hch5);rw [hxo] at h8;cases h8),rfl,H.ext⟩
        try simp only [bq] at hc53
        have hxo:hexB ch5 = true:=decide_eq_true (by omega);refine wp_skip <| block_normal ?_;refine then_normal (Q44 _ _ ?_);clear Q44;refine wp_text (zz 0 [tt,tt,tt]) rfl ?_;refine mv T rfl fun _ T=> tad T rfl (by omega) fun _ T=> asn T rfl fun _ T=> ?_;replace T:=T.keep [4,72,47,41,3,0] rfl;refine ser_nil ?_;refine then_normal ?_;exact ⟨i + 1,⟨by omega,by omega,fun j c h8 h9 hc=>by
              rcases Nat.lt_or_ge j i with h7 | h7
              · exact hsi j c h8 h7 hc
              obtain rfl:j = i:=by omega
              rw [hch5] at hc;cases hc
              exact hxo⟩,(T.keep [4,41,3,0] rfl),(H.keep [] rfl rfl),by omega⟩
      try simp only [bq] at hc52
      refine sk T rfl fun _ T=> sk T rfl fun _ T=> sk T rfl fun _ T=> sk T rfl fun _ T=> pf T rfl fun _ T=> pf T rfl fun _ T=> nt T rfl fun _ T=> ?_;replace T:=T.keep [72,47,4,41,3,0] rfl;refine ser_nil ?_;refine then_normal (Q45 _ _ ?_);clear Q45;refine wp_if T rfl (fun _=>?_) (fun h=>by cases h);have hxo:hexB ch5 = false:=decide_eq_false (by omega);refine sj (zz 0 [tt]) rfl fun _ Q55=>?_;refine asn T rfl fun _ T=> ?_;revert Q55 T;refine rp [2,72,47,4,41,3,0] rfl fun T=>?_;refine wp_ret <| block_ret ?_;refine then_ret <| then_ret ?_;refine block_ret <| then_ret ?_;refine dn Tryz.f43 T rfl ?_;exact .inr ⟨(fun h9=>by
        have h3:=((tail_iff hn).1 h9).2.2.1;have h8:=List.all_eq_true.1 h3 ch5 (mid_at h0 (by omega) hch5);rw [hxo] at h8;cases h8),rfl,H.ext⟩
    try simp only [bq] at hc43
    obtain rfl:i = n + 10:=by omega
    refine wp_exit <| then_exit ?_;refine then_exit <| block_exit ?_;revert Q39;refine nx fun _ Q56=>?_;refine wp_text (zz 0 [tt,tt]) rfl ?_;refine mv T rfl fun _ T=> asn T rfl fun _ T=> ?_;revert Q56 T;refine rp [2,47,4,41,3,0] rfl fun T=>?_;refine wp_ret ?_;refine dn Tryz.f43 T rfl ?_;exact .inl ⟨(tail_iff hn).2 ⟨hb2,two_at.2 ⟨hb3,hb4⟩,mid_all fun j c h8 h9 hc=>hsi j c h8 (by omega) hc,hb5⟩,by rw [hn];congr 2;omega,H.ext⟩
  skip
  refine wp_text (zz 0 [tt,tt,tt,tt,tt,tt,tt,tt,tt,tt,tt,tt,tt,tt,tt,tt,tt,tt,tt,tt,tt,tt,tt,tt,tt,tt,tt,tt,tt,tt,tt,tt,tt,tt]) rfl ?_;refine mv T rfl fun _ T=> tlt T rfl fun _ T=> mv T rfl fun _ T=> ?_;refine Sl.two T 10 rfl (fun hc57 T=>?_) (fun hc57 T=>?_)
  · try simp only [bq] at hc57
    refine sk T rfl fun _ T=> sk T rfl fun _ T=> sk T rfl fun _ T=> sk T rfl fun _ T=> sk T rfl fun _ T=> sk T rfl fun _ T=> sk T rfl fun _ T=> sk T rfl fun _ T=> sk T rfl fun _ T=> pt T rfl fun _ T=> mv T rfl fun _ T=> sk T rfl fun _ T=> sk T rfl fun _ T=> sk T rfl fun _ T=> sk T rfl fun _ T=> pt T rfl fun _ T=> mv T rfl fun _ T=> sk T rfl fun _ T=> sk T rfl fun _ T=> sk T rfl fun _ T=> sk T rfl fun _ T=> sk T rfl fun _ T=> pt T rfl fun _ T=> mv T rfl ?_
    clear T;intro a T;refine sk T rfl fun _ T=> sk T rfl fun _ T=> sk T rfl fun _ T=> sk T rfl fun _ T=> sk T rfl fun _ T=> sk T rfl fun _ T=> pt T rfl fun _ T=> ?_;replace T:=T.keep [41,3,2,0] rfl;refine ser_nil ?_;refine then_normal (Q4 _ _ ?_);clear Q4;refine wp_if T rfl (fun _=>?_) (fun h=>by cases h);refine sj (zz 0 [tt]) rfl fun _ Q58=>?_;refine asn T rfl fun _ T=> ?_;revert Q58 T;refine rp [2,41,3,0] rfl fun T=>?_;refine wp_ret <| then_ret ?_;refine dn Tryz.f43 T rfl ?_;exact .inr ⟨fun h9=>by have:=tail_len h9;omega,rfl,H.ext⟩
  exfalso
  try simp only [bq] at hc57
  first | omega | (simp at hc57;done) | (simp at hc57;omega) | (simp_all;done) | (exfalso;simp_all;omega)
theorem xSplit_calls (s:List UInt8) (c:UInt8) (hs:s.length≤1000000) (w:World):Calls Tryz.prog 44 #[.string ⟨s.toArray⟩,.int .u8 c.toNat] w fun e w'=>∃ ad c',e = .returned (.slice ad (spl c s).length c')∧Hp w No w' [(Own ad,fun u=>Ss u ad kc 1 (spl c s))]:=by
  refine calls_into func44 rfl ntmps44 rfl fun _ T=> ?_;replace T:=T.keep [0,1] rfl;have H:Sx.Hp w (Sx.No) w []:=Sx.Hp.start _ _;refine sj (zz 0 [tt]) rfl fun _ Q1=>?_;refine asn T rfl fun _ T=> ?_;revert Q1 T;refine rg [4,0,1] (zz 0 [tt]) rfl fun _ Q2 T=>?_;refine asn T rfl fun _ T=> ?_;revert Q2 T;refine rg [5,4,0,1] (zz 0 [tt]) rfl fun _ Q3 T=>?_;refine asn T rfl fun _ T=> ?_;revert Q3 T;refine rq [6,5,4,0,1] rfl fun _ Q4 T=>?_;refine sj (zz 0 [tt]) rfl fun _ Q5=>?_;refine asn T rfl fun _ T=> ?_;revert Q5 T;refine rp [7,6,5,4,0,1] rfl fun T=>?_;refine wp_block ?_;replace H:=H.nilR 9 1;refine wp_loopH (G:=List Key × Nat × Nat × Option Addr × Nat) (fun ⟨L,f,i,ad2,c2⟩=>[(5,.slice ad2 L.length c2),(6,.int .i64 (f:Int)),(7,.int .i64 (i:Int))]) (fun ⟨L,f,i,ad2,c2⟩=>[cR 9 1 ad2 (L).length c2 ((L).flatMap kc)]) (fun ⟨L,f,i,ad2,c2⟩=>f≤i∧i≤s.length∧spl c s = L++spl c (s.drop f)∧(∀ j d,f≤j→j < i→s[j]? = some d→d ≠ c)∧L.length≤f) (fun ⟨L,f,i,ad2,c2⟩=>s.length - i) ([],0,0,none,0) (T.keep [5,6,7,4,0,1] rfl) (H.keep [0] rfl rfl) (⟨Nat.le_refl _,Nat.zero_le _,rfl,fun j d h1 h2=>by omega,Nat.zero_le _⟩) ?_
  clear T H;rintro ⟨L,f,i,ad2,c2⟩ a w1 hJ T H;replace T:=T.keep [5,6,7,4,0,1] rfl;replace H:=H.keep [0] rfl rfl;obtain ⟨hfi,his,hsp,hno,hLf⟩:=hJ;refine wp_seq_k fun _ Q6=>?_;refine sj (zz 0 [tt,tt,tt,tt]) rfl fun _ Q7=>?_;refine mv T rfl fun _ T=> mv T rfl fun _ T=> tls T underlying9 rfl fun _ T=> tlt T rfl fun _ T=> ?_;revert Q7 T;refine rif [11,5,6,7,4,0,1] rfl (fun T hc8=>?_) (fun T hc8=>?_)
  · try simp only [bq] at hc8
    obtain ⟨ch,hch⟩:∃ q9,s[i]? = some q9:=⟨_,List.getElem?_eq_getElem (by omega)⟩;refine wp_skip ?_;revert Q6;refine nx fun _ Q9=>?_;refine wp_block ?_;refine sj (zz 0 [tt,tt,tt,tt,tt]) rfl fun _ Q10=>?_;refine mv T rfl fun _ T=> mv T rfl fun _ T=> ?_;refine tk T rfl (x_indexStr (k:=i) T rfl underlying9 rfl rfl (by omega) hch) fun _ T=> mv T rfl fun _ T=> teq T rfl fun _ T=> ?_;revert Q10 T;refine rif [18,11,5,6,7,4,0,1] rfl (fun T hc11=>?_) (fun T hc11=>?_)
    · try simp only [bq] at hc11
      have hce:ch = c:=UInt8.toNat_inj.1 (by have h9:=hc11;omega);refine sj (zz 0 [tt,tt,tt,tt,tt,uu,uu,tt]) rfl fun _ Q12=>?_;refine mv T rfl fun _ T=> mv T rfl fun _ T=> mv T rfl fun _ T=> mv T rfl fun _ T=> ?_;refine tk T rfl (x_sliceStr_lh (p:=f) (q:=i) T rfl underlying9 rfl rfl rfl (by omega) (by omega) (by omega) (by omega)) fun _ T=> ?_;refine st_eff T rfl rfl rfl rfl (y_slice1 T rfl underlying82 ti9 rfl rfl rfl rfl rfl rfl _) ?_;clear T;rintro _ w2 ⟨b1,rfl,N⟩ a T;replace H:=H.new N;clear N;refine st_eff T rfl rfl rfl rfl (x_append T rfl rfl underlying82 ti9 rfl (by decide) rfl rfl (H.row 1 rfl) ((H.blk 0 rfl).sv1 rfl) (by simp [Value.oneCell']) (fun h=>by cases h) (by unfold maxLen;omega) (by omega)) ?_;rintro _ w3 ⟨ad3,c3,rfl,hr,E,hown,-⟩;clear T;intro a T;replace H:=H.setR 1 rfl hr E hown rfl;clear hr E hown;rw [show L.flatMap kc++[Value.string ⟨(((s.take i).drop f)).toArray⟩] = (L++[((s.take i).drop f)]).flatMap kc from by simp [kc],show L.length + 1 = (L++[((s.take i).drop f)]).length from by simp] at H;rw [show L.length + 1 = (L++[((s.take i).drop f)]).length from by simp] at T
      refine asn T rfl fun _ T=> ?_;revert Q12 T;refine rp [5,18,11,6,7,4,0,1] rfl fun T=>?_;refine wp_text (zz 0 [tt,tt,tt]) rfl ?_;refine mv T rfl fun _ T=> tad T rfl (by omega) fun _ T=> asn T rfl fun _ T=> ?_;replace T:=T.keep [6,5,18,11,7,4,0,1] rfl;refine ser_nil ?_;refine block_normal ?_;refine then_normal (Q9 _ _ ?_);clear Q9;refine wp_text (zz 0 [tt,tt,tt]) rfl ?_;refine mv T rfl fun _ T=> tad T rfl (by omega) fun _ T=> asn T rfl fun _ T=> ?_;replace T:=T.keep [7,6,5,18,11,4,0,1] rfl;refine ser_nil ?_;refine then_normal ?_;exact ⟨(L++[((s.take i).drop f)],i + 1,i + 1,ad3,c3),⟨Nat.le_refl _,by show i + 1≤_;omega,by rw [hsp,sp_hit hfi hno (by rw [hch,hce]),List.append_assoc];rfl,fun j d h1 h2=>absurd h1 (by show ¬ i + 1≤j;have h2:j < i + 1:=h2;omega),by rw [List.length_append,List.length_singleton];show _≤i + 1;omega⟩,(T.keep [5,6,7,4,0,1] rfl),(H.keep [1] rfl rfl),by show _ - (i + 1) < _ - i;omega⟩
    try simp only [bq] at hc11
    have hce:ch ≠ c:=fun h9=>hc11 (by rw [h9]);refine wp_skip <| block_normal ?_;refine then_normal (Q9 _ _ ?_);clear Q9;refine wp_text (zz 0 [tt,tt,tt]) rfl ?_;refine mv T rfl fun _ T=> tad T rfl (by omega) fun _ T=> asn T rfl fun _ T=> ?_;replace T:=T.keep [7,18,11,5,6,4,0,1] rfl;refine ser_nil ?_;refine then_normal ?_;exact ⟨(L,f,i + 1,ad2,c2),⟨by show f≤i + 1;omega,by show i + 1≤_;omega,hsp,fun j d h1 h2 h3=>by
          rcases Nat.lt_or_ge j i with h7 | h7
          · exact hno j d h1 h7 h3
          obtain rfl:j = i:=(by have h2:j < i + 1:=h2;omega)
          rw [hch] at h3;cases h3
          exact hce,hLf⟩,(T.keep [5,6,7,4,0,1] rfl),(H.keep [0] rfl rfl),by show _ - (i + 1) < _ - i;omega⟩
  try simp only [bq] at hc8
  obtain rfl:i = s.length:=by omega
  refine wp_exit <| then_exit ?_;refine then_exit <| block_exit ?_;revert Q4;refine nx fun _ Q13=>?_;refine wp_text (zz 0 [tt,tt,tt,tt,uu,uu,tt]) rfl ?_;refine mv T rfl fun _ T=> mv T rfl fun _ T=> mv T rfl fun _ T=> ?_;refine tk T rfl (x_sliceStr_l (p:=f) T rfl underlying9 rfl rfl (by omega) (by omega)) fun _ T=> ?_;refine st_eff T rfl rfl rfl rfl (y_slice1 T rfl underlying82 ti9 rfl rfl rfl rfl rfl rfl _) ?_;clear T;rintro _ w4 ⟨b2,rfl,N⟩ a T;replace H:=H.new N;clear N;refine st_eff T rfl rfl rfl rfl (x_append T rfl rfl underlying82 ti9 rfl (by decide) rfl rfl (H.row 1 rfl) ((H.blk 0 rfl).sv1 rfl) (by simp [Value.oneCell']) (fun h=>by cases h) (by unfold maxLen;omega) (by omega)) ?_;rintro _ w5 ⟨ad5,c5,rfl,hr,E,hown,-⟩;clear T;intro a T;replace H:=H.setR 1 rfl hr E hown rfl;clear hr E hown;rw [show L.flatMap kc++[Value.string ⟨(s.drop f).toArray⟩] = (L++[s.drop f]).flatMap kc from by simp [kc],show L.length + 1 = (L++[s.drop f]).length from by simp] at H;rw [show L.length + 1 = (L++[s.drop f]).length from by simp] at T;rw [show L++[s.drop f] = spl c s from by rw [hsp,sp_end (fun j d h8 h9=>hno j d h8 (List.getElem?_eq_some_iff.1 h9).1 h9)]] at T H
  refine asn T rfl fun _ T=> ?_;revert Q13 T;refine rp [4,11,5,6,7,0,1] rfl fun T=>?_;refine wp_ret ?_;refine dn Tryz.f44 T rfl ?_;exact ⟨_,_,rfl,(H.turn (q:=fun u=>Ss u ad5 kc 1 (spl c s)) 1 rfl (fun u hu=>hu.ssn rfl) rfl).keep [1] rfl rfl⟩
theorem xnum_calls (s:List UInt8) (hs:s.length≤1000000) (w:World):Calls Tryz.prog 77 #[.string ⟨s.toArray⟩] w fun e w'=>e = .returned (.int .i64 (numX s))∧Ext No w w':=by
  refine calls_into func77 rfl ntmps77 rfl fun _ T=> ?_;replace T:=T.keep [0] rfl;have H:Sx.Hp w (Sx.No) w []:=Sx.Hp.start _ _;refine sj (zz 0 [tt]) rfl fun _ Q1=>?_;refine asn T rfl fun _ T=> ?_;revert Q1 T;refine rg [2,0] (zz 0 [tt]) rfl fun _ Q2 T=>?_;refine asn T rfl fun _ T=> ?_;revert Q2 T;refine rq [3,2,0] rfl fun _ Q3 T=>?_;refine sj (zz 0 [tt]) rfl fun _ Q4=>?_;refine asn T rfl fun _ T=> ?_;revert Q4 T;refine rp [4,3,2,0] rfl fun T=>?_;refine wp_block ?_;refine wp_loopH (G:=Nat) (fun k=>[(3,.int .i64 (numF (s.take k))),(4,.int .i64 (k:Int))]) (fun k=>[]) (fun k=>k≤s.length∧(∀ j c,j < k→s[j]? = some c→48≤c.toNat∧c.toNat≤57)∧(0 < k→s.length≤19)) (fun k=>s.length - k) 0 (T.keep [3,4,0] rfl) (H.keep [] rfl rfl) (⟨Nat.zero_le _,fun j c h=>absurd h (Nat.not_lt_zero _),fun h=>absurd h (Nat.lt_irrefl _)⟩) ?_;clear T H;rintro k a w1 hJ T H;replace T:=T.keep [3,4,0] rfl;replace H:=H.keep [] rfl rfl;obtain ⟨hk,hdg,hln⟩:=hJ
  refine wp_seq_k fun _ Q5=>?_;refine sj (zz 0 [tt,tt,tt,tt]) rfl fun _ Q6=>?_;refine mv T rfl fun _ T=> mv T rfl fun _ T=> tls T underlying9 rfl fun _ T=> tlt T rfl fun _ T=> ?_;revert Q6 T;refine rif [8,3,4,0] rfl (fun T hc7=>?_) (fun T hc7=>?_)
  · try simp only [bq] at hc7
    obtain ⟨ch,hch⟩:∃ q9,s[k]? = some q9:=⟨_,List.getElem?_eq_getElem (by omega)⟩;have hob:=ch.toNat_lt;refine wp_skip ?_;revert Q5;refine nx fun _ Q8=>?_;refine wp_block ?_;refine wp_seq_k fun _ Q9=>?_;refine sj (zz 0 [tt,tt,tt,tt,tt,tt,tt,tt,tt,tt,tt,tt,tt,tt,tt]) rfl fun _ Q10=>?_;refine mv T rfl fun _ T=> mv T rfl fun _ T=> ?_;refine tk T rfl (x_indexStr (k:=k) T rfl underlying9 rfl rfl (by omega) hch) fun _ T=> tlt T rfl fun _ T=> mv T rfl fun _ T=> ?_;refine Sl.two T 15 rfl (fun hc11 T=>?_) (fun hc11 T=>?_)
    · try simp only [bq] at hc11
      refine sk T rfl fun _ T=> sk T rfl fun _ T=> sk T rfl fun _ T=> sk T rfl fun _ T=> pt T rfl fun _ T=> mv T rfl fun _ T=> sk T rfl fun _ T=> sk T rfl fun _ T=> sk T rfl fun _ T=> pt T rfl fun _ T=> ?_;replace T:=T.keep [25,8,3,4,0] rfl;refine ser_nil ?_;refine then_normal (Q10 _ _ ?_);clear Q10;refine wp_if T rfl (fun _=>?_) (fun h=>by cases h);refine sj (zz 0 [tt]) rfl fun _ Q12=>?_;refine asn T rfl fun _ T=> ?_;revert Q12 T;refine rp [2,25,8,3,4,0] rfl fun T=>?_;refine wp_ret <| then_ret ?_;refine block_ret <| then_ret ?_;refine then_ret <| block_ret <| then_ret ?_;refine dn Tryz.f77 T rfl ?_;exact ⟨by rw [numX_bad hch (by omega)],H.ext⟩
    try simp only [bq] at hc11
    refine mv T rfl fun _ T=> mv T rfl fun _ T=> ?_;refine tk T rfl (x_indexStr (k:=k) T rfl underlying9 rfl rfl (by omega) hch) fun _ T=> tgt T rfl fun _ T=> pf T rfl fun _ T=> mv T rfl fun _ T=> ?_;refine Sl.two T 21 rfl (fun hc13 T=>?_) (fun hc13 T=>?_)
    · try simp only [bq] at hc13
      refine sk T rfl fun _ T=> sk T rfl fun _ T=> sk T rfl fun _ T=> pt T rfl fun _ T=> ?_;replace T:=T.keep [25,8,3,4,0] rfl;refine ser_nil ?_;refine then_normal (Q10 _ _ ?_);clear Q10;refine wp_if T rfl (fun _=>?_) (fun h=>by cases h);refine sj (zz 0 [tt]) rfl fun _ Q14=>?_;refine asn T rfl fun _ T=> ?_;revert Q14 T;refine rp [2,25,8,3,4,0] rfl fun T=>?_;refine wp_ret <| then_ret ?_;refine block_ret <| then_ret ?_;refine then_ret <| block_ret <| then_ret ?_;refine dn Tryz.f77 T rfl ?_;exact ⟨by rw [numX_bad hch (by omega)],H.ext⟩
    try simp only [bq] at hc13
    refine mv T rfl fun _ T=> tls T underlying9 rfl fun _ T=> tgt T rfl fun _ T=> pf T rfl fun _ T=> ?_;revert Q10 T;refine rif [25,8,3,4,0] rfl (fun T hc15=>?_) (fun T hc15=>?_)
    · try simp only [bq] at hc15
      refine sj (zz 0 [tt]) rfl fun _ Q16=>?_;refine asn T rfl fun _ T=> ?_;revert Q16 T;refine rp [2,25,8,3,4,0] rfl fun T=>?_;refine wp_ret <| then_ret ?_;refine block_ret <| then_ret ?_;refine then_ret <| block_ret <| then_ret ?_;refine dn Tryz.f77 T rfl ?_;exact ⟨by rw [numX_bad hch (by omega)],H.ext⟩
    try simp only [bq] at hc15
    refine wp_skip ?_;refine then_normal (Q9 _ _ ?_);clear Q9;refine wp_text (zz 0 [tt,tt,tt,tt,tt,tt,tt,tt,tt]) rfl ?_;refine mv T rfl fun _ T=> ?_;refine tk T rfl ((fun w=>x_mul w T rfl rfl rfl rfl)) fun _ T=> mv T rfl fun _ T=> mv T rfl fun _ T=> ?_;refine tk T rfl (x_indexStr (k:=k) T rfl underlying9 rfl rfl (by omega) hch) fun _ T=> ?_;refine tk T rfl ((fun w=>x_sub w T rfl rfl rfl (wrap8 (by omega)))) fun _ T=> ?_;refine tk T rfl ((fun w=>x_toint w T rfl underlying5 underlying3 rfl (wrap64 (by omega)))) fun _ T=> ?_;refine tk T rfl ((fun w=>x_add w T rfl rfl rfl rfl)) fun _ T=> asn T rfl fun _ T=> ?_;replace T:=T.keep [3,25,8,4,0] rfl;refine ser_nil ?_;refine block_normal ?_;refine then_normal (Q8 _ _ ?_);clear Q8;refine wp_text (zz 0 [tt,tt,tt]) rfl ?_;refine mv T rfl fun _ T=> tad T rfl (by omega) fun _ T=> ?_
    refine asn T rfl fun _ T=> ?_;replace T:=T.keep [4,3,25,8,0] rfl;refine ser_nil ?_;refine then_normal ?_;rw [show (ch.toNat:Int) - 48 = ((ch.toNat - 48:Nat):Int) from by omega] at T;exact ⟨k + 1,⟨by omega,fun j c h1 h2=>by
          rcases Nat.lt_or_ge j k with h7 | h7
          · exact hdg j c h7 h2
          obtain rfl:j = k:=by omega
          rw [hch] at h2;cases h2
          omega,fun _=>by omega⟩,((T.keep [3,4,0] rfl).conv (by rw [numF_take hch];rfl)),(H.keep [] rfl rfl),by omega⟩
  try simp only [bq] at hc7
  obtain rfl:k = s.length:=by omega
  rw [List.take_length] at T;refine wp_exit <| then_exit ?_;refine then_exit <| block_exit ?_;revert Q3;refine nx fun _ Q17=>?_;refine wp_text (zz 0 [tt,tt]) rfl ?_;refine mv T rfl fun _ T=> asn T rfl fun _ T=> ?_;revert Q17 T;refine rp [2,8,3,4,0] rfl fun T=>?_;refine wp_ret ?_;refine dn Tryz.f77 T rfl ?_;exact ⟨by rw [numX_end hdg hln],H.ext⟩
theorem txnX_of {p a b c:Key} (h:spl 46 p = [a,b,c]):txnX p = ⟨numX a,numX b,numX c⟩:=by
  unfold txnX
  rw [h]
theorem txnX_no {p:Key} (h:(spl 46 p).length ≠ 3):txnX p = ⟨0,0,0⟩:=by
  unfold txnX
  split
  · rename_i a b c h1
    rw [h1] at h
    exact absurd rfl h
  rfl
theorem xtxn_calls (s:List UInt8) (hs:s.length≤100000) (w:World):Calls Tryz.prog 46 #[.string ⟨s.toArray⟩] w fun e w'=>e = .returned (.agg #[.int .i64 (txnX s).co,.int .i64 (txnX s).li,.int .i64 (txnX s).sq])∧Ext No w w':=by
  refine calls_into func46 rfl ntmps46 rfl fun _ T=> ?_;replace T:=T.keep [0] rfl;have H:Sx.Hp w (Sx.No) w []:=Sx.Hp.start _ _;refine sj (zz 0 [uu]) rfl fun _ Q1=>?_;refine st_eff T rfl rfl rfl rfl (y_alloc T rfl ti26 rfl _) ?_;clear T;rintro _ w1 ⟨b1,rfl,N⟩ a T;replace H:=H.new N;clear N;revert Q1 T;refine rg [2,0] (zz 0 [tt,uu,tt]) rfl fun _ Q2 T=>?_;refine mv T rfl fun _ T=> ?_;refine st_call T rfl rfl rfl rfl rfl can44 rfl (xSplit_calls s 46 (by omega) _) ?_;rintro _ w2 ⟨ads,cs9,rfl,K⟩;refine ⟨_,rfl,?_⟩;clear T;intro a T;replace H:=H.more K rfl;clear K;refine asn T rfl fun _ T=> ?_;revert Q2 T;refine rq [3,2,0] rfl fun _ Q3 T=>?_;refine sj (zz 0 [tt,tt,tt]) rfl fun _ Q4=>?_;refine mv T rfl fun _ T=> tln T underlying82 rfl fun _ T=> tne T rfl fun _ T=> ?_;revert Q4 T;refine rif [8,3,2,0] rfl (fun T hc5=>?_) (fun T hc5=>?_)
  · try simp only [bq] at hc5
    have hlen:(spl 46 s).length ≠ 3:=by have h9:=hc5;omega
    refine sj (zz 0 [tt,uu]) rfl fun _ Q6=>?_;refine bd T bld26 rfl fun _ T=> ?_;refine stS 1 T H ti26 rfl rfl fun w3 H=>?_;revert Q6 T;refine rp [8,3,2,0] rfl fun T=>?_;refine wp_ret <| then_ret ?_;refine done1 (fn:=Tryz.f46) T rfl (.cell (T.get 2 _ rfl) (Sx.run_resS underlying26 ti26 ((H.blk 1 rfl).seg (k:=3) rfl) (by rfl))) ?_;rw [txnX_no hlen];exact ⟨rfl,H.ext⟩
  try simp only [bq] at hc5
  obtain ⟨q0,q1,q2,hsq⟩:∃ q0 q1 q2,spl 46 s = [q0,q1,q2]:=by
    match spl 46 s,(by omega:(spl 46 s).length = 3) with
    | [a,b,c],_=>exact ⟨a,b,c,rfl⟩
  have hm0:=spl_len 46 s q0 (by rw [hsq];simp);have hm1:=spl_len 46 s q1 (by rw [hsq];simp);have hm2:=spl_len 46 s q2 (by rw [hsq];simp);rw [hsq] at H T;refine wp_skip ?_;revert Q3;refine nx fun _ Q7=>?_;revert H;refine drw (Sx.No) [(0,.take),(1,.take),(2,.held),(4,.take),(5,.take),(6,.held),(8,.take),(9,.take),(10,.held),(3,.keep),(7,.keep),(11,.run),(12,.take),(13,.run)] (by kernel_rfl) (by kernel_rfl) fun u H hH=>?_;have Hu:=H;refine mv T rfl fun _ T=> ?_;refine tk T rfl (x_index (k:=0) T rfl underlying82 ti9 (((H.at 0 rfl):Ss _ _ kc 1 _).sv) rfl rfl rfl (by first | omega | simp)) fun _ T=> ?_;refine hed T rfl hH (fun w' h'=>x_load1 T rfl fl9 rfl (((Hu.held 0 rfl h' off_No):Ss _ _ kc 1 _).cell (i:=0) (j:=0) kc_len rfl rfl)) fun _ T=> mv T rfl fun _ T=> ?_;refine tk T rfl (x_index (k:=1) T rfl underlying82 ti9 (((H.at 0 rfl):Ss _ _ kc 1 _).sv) rfl rfl rfl (by first | omega | simp)) fun _ T=> ?_;refine hed T rfl hH (fun w' h'=>x_load1 T rfl fl9 rfl (((Hu.held 0 rfl h' off_No):Ss _ _ kc 1 _).cell (i:=1) (j:=0) kc_len rfl rfl)) ?_
  clear T;intro a T;refine mv T rfl fun _ T=> ?_;refine tk T rfl (x_index (k:=2) T rfl underlying82 ti9 (((H.at 0 rfl):Ss _ _ kc 1 _).sv) rfl rfl rfl (by first | omega | simp)) fun _ T=> ?_;refine hed T rfl hH (fun w' h'=>x_load1 T rfl fl9 rfl (((Hu.held 0 rfl h' off_No):Ss _ _ kc 1 _).cell (i:=2) (j:=0) kc_len rfl rfl)) fun _ T=> ?_;refine calk T hH H can77 rfl (xnum_calls q0 (by omega) _) fun w4 hH H _ T=> ?_;refine calk T hH H can77 rfl (xnum_calls q1 (by omega) _) fun w5 hH H _ T=> ?_;refine cal T H can77 rfl (xnum_calls q2 (by omega) _) fun w6 H _ T=> bd T bld26 rfl fun _ T=> ?_;refine stS 1 T H ti26 rfl rfl fun w7 H=>?_;replace T:=T.keep [8,3,2,0] rfl;clear Hu hH;refine ser_calm ?_;refine then_normal (Q7 _ _ ?_);clear Q7;refine wp_ret ?_
  refine done1 (fn:=Tryz.f46) T rfl (.cell (T.get 2 _ rfl) (Sx.run_resS underlying26 ti26 ((H.blk 1 rfl).seg (k:=3) rfl) (by rfl))) ?_;rw [txnX_of hsq];exact ⟨rfl,H.ext⟩
theorem xwrite_calls (s:List UInt8) (h2:2≤s.length) (hs:s.length≤30000) (w:World):Calls Tryz.prog 47 #[.string ⟨s.toArray⟩] w fun e w'=>e = .returned (.agg #[.string ⟨(wrX s).key.toArray⟩,.int .i64 (wrX s).v.k,.float .f64 (wrX s).v.num,.string ⟨(wrX s).v.tx.toArray⟩])∧Ext No w w':=by
  refine calls_into func47 rfl ntmps47 rfl fun _ T=> ?_;replace T:=T.keep [0] rfl;have H:Sx.Hp w (Sx.No) w []:=Sx.Hp.start _ _;refine sj (zz 0 [uu]) rfl fun _ Q1=>?_;refine st_eff T rfl rfl rfl rfl (y_alloc T rfl ti53 rfl _) ?_;clear T;rintro _ w1 ⟨b1,rfl,N⟩ a T;replace H:=H.new N;clear N;revert Q1 T;refine rg [2,0] (zz 0 [tt]) rfl fun _ Q2 T=>?_;refine asn T rfl fun _ T=> ?_;revert Q2 T;refine rq [3,2,0] rfl fun _ Q3 T=>?_;refine wp_block ?_;refine wp_loopH (G:=Nat) (fun k=>[(3,.int .i64 (k:Int))]) (fun k=>[]) (fun k=>2≤k∧k≤s.length∧∀ j d,3≤j→j < k→s[j]? = some d→d ≠ 34) (fun k=>s.length - k) 2 (T.keep [3,2,0] rfl) (H.keep [0] rfl rfl) (⟨Nat.le_refl _,h2,fun j d h8 h9=>by omega⟩) ?_;clear T H;rintro k a w2 hJ T H;replace T:=T.keep [3,2,0] rfl;replace H:=H.keep [0] rfl rfl;obtain ⟨hk2,hks,hno⟩:=hJ;refine wp_seq_k fun _ Q4=>?_;refine sj (zz 0 [tt,tt,tt,tt,tt,tt,tt,tt,tt,tt,tt,tt,tt,tt]) rfl fun _ Q5=>?_;refine mv T rfl ?_
  clear T;intro a T;refine mv T rfl fun _ T=> tls T underlying9 rfl fun _ T=> tlt T rfl fun _ T=> mv T rfl fun _ T=> ?_;refine Sl.two T 12 rfl (fun hc6 T=>?_) (fun hc6 T=>?_)
  · try simp only [bq] at hc6
    obtain ⟨ch,hch⟩:∃ q9,s[k]? = some q9:=⟨_,List.getElem?_eq_getElem (by omega)⟩;refine mv T rfl fun _ T=> mv T rfl fun _ T=> ?_;refine tk T rfl (x_indexStr (k:=k) T rfl underlying9 rfl rfl (by omega) hch) fun _ T=> tne T rfl fun _ T=> mv T rfl fun _ T=> ?_;refine Sl.two T 17 rfl (fun hc7 T=>?_) (fun hc7 T=>?_)
    · try simp only [bq] at hc7
      have hq9:ch ≠ 34:=fun h9=>hc7 (by rw [h9];rfl);refine sk T rfl fun _ T=> sk T rfl fun _ T=> pt T rfl fun _ T=> pt T rfl fun _ T=> ?_;replace T:=T.keep [21,3,2,0] rfl;refine ser_nil ?_;refine then_normal (Q5 _ _ ?_);clear Q5;refine wp_if T rfl (fun _=>?_) (fun h=>by cases h);refine wp_skip ?_;refine then_normal (Q4 _ _ ?_);clear Q4;refine wp_block ?_;refine wp_text (zz 0 [tt,tt,tt]) rfl ?_;refine mv T rfl fun _ T=> tad T rfl (by omega) fun _ T=> asn T rfl fun _ T=> ?_;replace T:=T.keep [3,21,2,0] rfl;refine ser_nil ?_;refine block_normal ?_;refine then_normal ?_;exact ⟨k + 1,⟨by omega,by omega,fun j d h8 h9 hd=>by
            rcases Nat.lt_or_ge j k with h7 | h7
            · exact hno j d h8 h7 hd
            obtain rfl:j = k:=by omega
            rw [hch] at hd;cases hd
            exact hq9⟩,(T.keep [3,2,0] rfl),(H.keep [0] rfl rfl),by omega⟩
    try simp only [bq] at hc7
    have hq:s[k]? = some 34:=by rw [hch];exact congrArg some (u8_of (k:=34) (by decide) hc7)
    refine mv T rfl fun _ T=> teq T rfl fun _ T=> pf T rfl fun _ T=> pt T rfl fun _ T=> ?_;revert Q5 T;refine rif [21,3,2,0] rfl (fun T hc8=>?_) (fun T hc8=>?_)
    · try simp only [bq] at hc8
      refine wp_skip ?_;refine then_normal (Q4 _ _ ?_);clear Q4;refine wp_block ?_;refine wp_text (zz 0 [tt,tt,tt]) rfl ?_;refine mv T rfl fun _ T=> tad T rfl (by omega) fun _ T=> asn T rfl fun _ T=> ?_;replace T:=T.keep [3,21,2,0] rfl;refine ser_nil ?_;refine block_normal ?_;refine then_normal ?_;exact ⟨k + 1,⟨by omega,by omega,fun j d h8 h9 hd=>by
            rcases Nat.lt_or_ge j k with h7 | h7
            · exact hno j d h8 h7 hd
            obtain rfl:j = k:=by omega
            omega⟩,(T.keep [3,2,0] rfl),(H.keep [0] rfl rfl),by omega⟩
    try simp only [bq] at hc8
    have hk3:3≤k:=by have h9:=hc8;omega
    refine wp_exit <| then_exit ?_;refine then_exit <| block_exit ?_;revert Q3;refine nx fun _ Q9=>?_;refine sj (zz 0 [tt,tt,tt,tt]) rfl fun _ Q10=>?_;refine mv T rfl fun _ T=> mv T rfl fun _ T=> tls T underlying9 rfl fun _ T=> tge T rfl fun _ T=> ?_;revert Q10 T;refine rif [27,21,3,2,0] rfl (fun T hc11=>?_) (fun T hc11=>?_)
    · exfalso
      try simp only [bq] at hc11
      omega
    try simp only [bq] at hc11
    refine wp_skip ?_;revert Q9;refine nx fun _ Q12=>?_;refine wp_text (zz 0 [tt,tt,tt,tt,uu,tt,tt,tt,tt,tt]) rfl ?_;refine mv T rfl fun _ T=> mv T rfl fun _ T=> tad T rfl (by omega) fun _ T=> ?_;refine tk T rfl (x_sliceStr_lh (p:=2) (q:=k + 1) T rfl underlying9 rfl rfl rfl (by omega) (by omega) (by omega) (by omega)) fun _ T=> ?_;refine cal T H can78 rfl (xUnquote_calls ((s.take (k + 1)).drop 2) _ (by rw [List.length_drop,List.length_take];omega)) fun w3 H _ T=> mv T rfl fun _ T=> xt T rfl fun _ T=> xt T rfl fun _ T=> asn T rfl fun _ T=> asn T rfl fun _ T=> ?_;revert Q12 T;refine rq [4,27,21,3,2,0] rfl fun _ Q13 T=>?_
    refine wp_seq_k fun _ Q14=>?_;obtain ⟨c0,hc0⟩:∃ q9,s[0]? = some q9:=⟨_,List.getElem?_eq_getElem (by omega)⟩;refine wp_text (zz 0 [tt,tt,tt,tt,tt,tt,tt,tt,tt,tt]) rfl ?_;refine mv T rfl fun _ T=> ?_;refine tk T rfl (x_indexStr (k:=0) T rfl underlying9 rfl rfl (by omega) hc0) fun _ T=> teq T rfl fun _ T=> mv T rfl fun _ T=> ?_;refine Sl.two T 40 rfl (fun hc15 T=>?_) (fun hc15 T=>?_)
    · try simp only [bq] at hc15
      have hm9:=hc15;refine sk T rfl fun _ T=> sk T rfl fun _ T=> sk T rfl fun _ T=> sk T rfl fun _ T=> sk T rfl fun _ T=> pt T rfl fun _ T=> ?_;replace T:=T.keep [46,4,27,21,3,2,0] rfl;refine ser_nil ?_;refine then_normal (Q14 _ _ ?_);clear Q14;refine wp_if T rfl (fun _=>?_) (fun h=>by cases h);refine sj (zz 0 [tt,tt,uu]) rfl fun _ Q16=>?_;refine mv T rfl fun _ T=> bd T bld53 rfl fun _ T=> ?_;refine stS 0 T H ti53 rfl rfl fun w4 H=>?_;revert Q16 T;refine rp [46,4,27,21,3,2,0] rfl fun T=>?_;refine wp_ret <| then_ret ?_;refine done1 (fn:=Tryz.f47) T rfl (.cell (T.get 2 _ rfl) (Sx.run_resS underlying53 ti53 ((H.blk 0 rfl).seg (k:=4) rfl) (by rfl))) ?_;rw [wrX_at hk3 (idx3_at hk3 hno hq),if_pos (.inl (by rw [hc0];exact congrArg some (u8_of (k:=45) (by decide) hm9)))];exact ⟨rfl,H.ext⟩
    try simp only [bq] at hc15
    have hm9:=hc15;refine mv T rfl fun _ T=> tad T rfl (by omega) fun _ T=> mv T rfl fun _ T=> tls T underlying9 rfl fun _ T=> tgt T rfl fun _ T=> pf T rfl fun _ T=> ?_;revert Q14 T;refine rif [46,4,27,21,3,2,0] rfl (fun T hc17=>?_) (fun T hc17=>?_)
    · try simp only [bq] at hc17
      refine sj (zz 0 [tt,tt,uu]) rfl fun _ Q18=>?_;refine mv T rfl fun _ T=> bd T bld53 rfl fun _ T=> ?_;refine stS 0 T H ti53 rfl rfl fun w5 H=>?_;revert Q18 T;refine rp [46,4,27,21,3,2,0] rfl fun T=>?_;refine wp_ret <| then_ret ?_;refine done1 (fn:=Tryz.f47) T rfl (.cell (T.get 2 _ rfl) (Sx.run_resS underlying53 ti53 ((H.blk 0 rfl).seg (k:=4) rfl) (by rfl))) ?_;rw [wrX_at hk3 (idx3_at hk3 hno hq),if_pos (.inr (by omega))];exact ⟨rfl,H.ext⟩
    try simp only [bq] at hc17
    refine wp_skip ?_;revert Q13;refine nx fun _ Q19=>?_;refine wp_text (zz 0 [tt,tt,tt,tt,uu,tt,tt,tt,uu,uu,tt]) rfl ?_;refine mv T rfl fun _ T=> mv T rfl fun _ T=> tad T rfl (by omega) fun _ T=> ?_;refine tk T rfl (x_sliceStr_l (p:=k + 2) T rfl underlying9 rfl rfl (by omega) (by omega)) fun _ T=> ?_;refine cal T H can79 rfl (xParseV_calls (s.drop (k + 2)) (by rw [List.length_drop];omega) _) fun w6 H _ T=> mv T rfl fun _ T=> xt T rfl fun _ T=> xt T rfl fun _ T=> ?_;refine st_eff T rfl rfl rfl rfl (y_alloc T rfl ti51 rfl _) ?_;clear T;rintro _ w7 ⟨b2,rfl,N⟩ a T;replace H:=H.new N;clear N;refine stS 0 T H ti51 rfl rfl fun w8 H=>?_;refine asn T rfl ?_
    clear T;intro a T;revert Q19 T;refine rg [6,46,4,27,21,3,2,0] (zz 0 [tt,uu,tt,uu]) rfl fun _ Q20 T=>?_;refine mv T rfl fun _ T=> ?_;refine rn T rfl (y_loadS T rfl underlying51 ti51 rfl ((H.blk 0 rfl).seg (k:=3) rfl) (by rfl)) fun _ T=> bd T bld53 rfl fun _ T=> ?_;refine stS 1 T H ti53 rfl rfl fun w9 H=>?_;revert Q20 T;refine rp [6,46,4,27,21,3,2,0] rfl fun T=>?_;refine wp_ret ?_;refine done1 (fn:=Tryz.f47) T rfl (.cell (T.get 2 _ rfl) (Sx.run_resS underlying53 ti53 ((H.blk 1 rfl).seg (k:=4) rfl) (by rfl))) ?_;rw [wrX_at hk3 (idx3_at hk3 hno hq),if_neg (fun h9=>by
      rcases h9 with h9 | h9
      · rw [hc0] at h9;cases h9;exact hm9 rfl
      omega)]
    exact ⟨rfl,H.ext⟩
  try simp only [bq] at hc6
  refine sk T rfl fun _ T=> sk T rfl fun _ T=> sk T rfl fun _ T=> sk T rfl fun _ T=> sk T rfl fun _ T=> sk T rfl fun _ T=> sk T rfl fun _ T=> sk T rfl fun _ T=> pf T rfl fun _ T=> ?_;replace T:=T.keep [21,3,2,0] rfl;refine ser_nil ?_;refine then_normal (Q5 _ _ ?_);clear Q5;refine wp_if T rfl (fun h=>by cases h) (fun _=>?_);skip;refine wp_exit <| then_exit ?_;refine then_exit <| block_exit ?_;revert Q3;refine nx fun _ Q21=>?_;refine sj (zz 0 [tt,tt,tt,tt]) rfl fun _ Q22=>?_;refine mv T rfl fun _ T=> mv T rfl fun _ T=> tls T underlying9 rfl fun _ T=> tge T rfl fun _ T=> ?_;revert Q22 T;refine rif [27,21,3,2,0] rfl (fun T hc23=>?_) (fun T hc23=>?_)
  · try simp only [bq] at hc23
    refine sj (zz 0 [tt,uu]) rfl fun _ Q24=>?_;refine bd T bld53 rfl fun _ T=> ?_;refine stS 0 T H ti53 rfl rfl fun w10 H=>?_;revert Q24 T;refine rp [27,21,3,2,0] rfl fun T=>?_;refine wp_ret <| then_ret ?_;refine done1 (fn:=Tryz.f47) T rfl (.cell (T.get 2 _ rfl) (Sx.run_resS underlying53 ti53 ((H.blk 0 rfl).seg (k:=4) rfl) (by rfl))) ?_;rw [wrX_none (idx3_none fun j d h8 h9 hd=>hno j d h8 (by omega) hd)];exact ⟨rfl,H.ext⟩
  exfalso
  try simp only [bq] at hc23
  omega
open Classical in
noncomputable def tailI (s:Key):Int:=if tailOk s then (s.length:Int) - 11 else -1
theorem tailI_calls (s:List UInt8) (hs:s.length≤100000000) (w:World):Calls Tryz.prog 43 #[.string ⟨s.toArray⟩] w fun e w'=>e = .returned (.int .i64 (tailI s))∧Ext No w w':=by
  refine (xtail_calls s hs w).mono fun e w' h=>?_
  unfold tailI
  rcases h with ⟨h1,rfl,E⟩ | ⟨h1,rfl,E⟩
  · rw [if_pos h1]
    exact ⟨rfl,E⟩
  rw [if_neg h1]
  exact ⟨rfl,E⟩
theorem tailI_neg {s:Key} (h:tailI s < 0):¬ tailOk s:=fun h1=>by
  unfold tailI at h
  rw [if_pos h1] at h
  have:=tail_len h1
  omega
theorem tailI_pos {s:Key} (h:¬ tailI s < 0):tailOk s∧∃ n:Nat,s.length = n + 11∧tailI s = n:=by
  unfold tailI at h ⊢
  by_cases h1:tailOk s
  · rw [if_pos h1]
    have:=tail_len h1
    exact ⟨h1,s.length - 11,by omega,by omega⟩
  rw [if_neg h1] at h
  omega
theorem snoc_en2 {L:List En} {t:Tn} {s:Stp}:L.flatMap En.cells++[.int .i64 t.co,.int .i64 t.li,.int .i64 t.sq,.int .i64 s.w,.int .i64 s.l,.int .i64 s.n,.slice none 0 0] = (L++[(⟨t,s,none,0,[]⟩:En)]).flatMap En.cells:=by simp [En.cells]
theorem snocE_of {o:List En} (h:¬ (o.length:Int) = 0):∃ A g,o = A++[g]:=⟨o.dropLast,o.getLast (fun h9=>by subst h9;exact h rfl),(List.dropLast_concat_getLast _).symm⟩
set_option maxHeartbeats 1600000 in
theorem xLParse_calls (s:List UInt8) (hs:s.length≤30000) (w:World):Calls Tryz.prog 17 #[.string ⟨s.toArray⟩] w fun e w'=>∃ ad c l,e = .returned (.tuple #[.slice ad (List.length l) c,.int .i64 (parseT s).2])∧l.map En.p = (parseT s).1∧l.length≤s.length∧(∀ x ∈ l,x.ws.length≤s.length)∧Hp w No w' [cR 31 7 ad (l).length c ((l).flatMap En.cells),cF 53 4 En.rw (l)]:=by
  refine calls_into func17 rfl ntmps17 rfl fun _ T=> ?_;replace T:=T.keep [0] rfl;have H:Sx.Hp w (Sx.No) w []:=Sx.Hp.start _ _;refine sj (zz 0 [tt,tt]) rfl fun _ Q1=>?_;refine asn T rfl fun _ T=> asn T rfl fun _ T=> ?_;revert Q1 T;refine rg [3,2,0] (zz 0 [tt,uu,tt]) rfl fun _ Q2 T=>?_;refine mv T rfl fun _ T=> ?_;refine cal T H can43 rfl (tailI_calls s (by omega) _) fun w1 H _ T=> asn T rfl fun _ T=> ?_;revert Q2 T;refine rq [4,3,2,0] rfl fun _ Q3 T=>?_;refine sj (zz 0 [tt,tt]) rfl fun _ Q4=>?_;refine mv T rfl fun _ T=> tlt T rfl fun _ T=> ?_;revert Q4 T;refine rif [17,4,3,2,0] rfl (fun T hc5=>?_) (fun T hc5=>?_)
  · try simp only [bq] at hc5
    have htn9:=hc5;refine sj (zz 0 [tt,tt]) rfl fun _ Q6=>?_;refine asn T rfl fun _ T=> asn T rfl fun _ T=> ?_;revert Q6 T;refine rp [3,2,17,4,0] rfl fun T=>?_;refine wp_ret <| then_ret ?_;refine dn2 Tryz.f17 T rfl ?_;have hp9:parseT s = ([],5):=parse_t5 (tailI_neg htn9);rw [hp9];exact ⟨none,0,[],rfl,rfl,Nat.zero_le _,(fun x hx=>by cases hx),((H.keep [] rfl rfl).famNil (α:=En) 53 4 En.rw).nilR 31 7⟩
  try simp only [bq] at hc5
  obtain ⟨htl,n,hn,htn⟩:=tailI_pos (Int.not_lt.2 hc5);rw [htn] at T;have hah:=(ahead_at hn).1;refine wp_skip ?_;revert Q3;refine nx fun _ Q7=>?_;refine wp_seq_k fun _ Q8=>?_;refine wp_draws (fun u=>Sx.Ext (Sx.No) u) [(0,.take),(1,.take),(2,.take),(6,.take),(7,.take),(8,.take),(9,.take),(10,.take),(11,.take),(3,.run),(4,.run),(5,.run),(12,.take)] (by kernel_rfl) (by kernel_rfl) (fun u E _=>?_);replace H:=H.pure E;clear E;refine mv T rfl fun _ T=> mv T rfl fun _ T=> ?_;refine tk T rfl (x_sliceStr_h (q:=n) T rfl underlying9 rfl rfl (by omega) (by omega)) fun _ T=> mv T rfl fun _ T=> mv T rfl fun _ T=> tad T rfl (by omega) fun _ T=> mv T rfl fun _ T=> tad T rfl (by omega) fun _ T=> ?_;refine tk T rfl (x_sliceStr_lh (p:=n + 2) (q:=n + 10) T rfl underlying9 rfl rfl rfl (by omega) (by omega) (by omega) (by omega)) fun _ T=> ?_;refine st_eff T rfl rfl rfl rfl (x_string_bytes T rfl underlying9 underlying39 underlying5 rfl _) ?_
  rintro _ w2 ⟨bb,cb,rfl,hbs,E,hb1,hb2⟩;clear T;intro a T;replace H:=H.pure E;clear E;refine cal T H can35 rfl (xSum_calls (s.take n) hbs (by rw [List.length_take];omega)) fun w3 H _ T=> ?_;refine cal T H can34 rfl (xhex_calls (crc (s.take n)) (crc_lt _) _) fun w4 H _ T=> tsn T rfl fun _ T=> ?_;replace T:=T.keep [30,17,4,3,2,0] rfl;refine ser_calm ?_;refine then_normal (Q8 _ _ ?_);clear Q8;refine wp_if T rfl (fun hc9=>?_) (fun hc9=>?_)
  · try simp only [bq] at hc9
    have hsm:=hc9;refine sj (zz 0 [tt,tt]) rfl fun _ Q10=>?_;refine asn T rfl fun _ T=> asn T rfl fun _ T=> ?_;revert Q10 T;refine rp [3,2,30,17,4,0] rfl fun T=>?_;refine wp_ret <| then_ret ?_;refine dn2 Tryz.f17 T rfl ?_;have hp9:parseT s = ([],13):=parse_t13 htl (fun h9=>hsm ((sum_iff hn htl).1 h9));rw [hp9];exact ⟨none,0,[],rfl,rfl,Nat.zero_le _,(fun x hx=>by cases hx),((H.keep [] rfl rfl).famNil (α:=En) 53 4 En.rw).nilR 31 7⟩
  try simp only [bq] at hc9
  have hsm:=(sum_iff hn htl).2 (by simpa using hc9);refine wp_skip ?_;revert Q7;refine nx fun _ Q11=>?_;refine wp_text (zz 0 [tt,tt,tt,uu,tt]) rfl ?_;refine mv T rfl fun _ T=> mv T rfl fun _ T=> ?_;refine tk T rfl (x_sliceStr_h (q:=n) T rfl underlying9 rfl rfl (by omega) (by omega)) fun _ T=> ?_;refine st_call T rfl rfl rfl rfl rfl can44 rfl (xSplit_calls (s.take n) 10 (by rw [List.length_take];omega) _) ?_;rintro _ w5 ⟨adl,cl9,rfl,K⟩;refine ⟨_,rfl,?_⟩;clear T;intro a T;replace H:=H.more K rfl;clear K;obtain ⟨L,hL⟩:∃ L,spl 10 (s.take n) = L:=⟨_,rfl⟩;have hLs:lsum L = n + 1:=by rw [← hL,lsum_spl,List.length_take];omega
  have hL0:0 < L.length:=List.length_pos_iff.2 (by rw [← hL];exact spl_ne _ _);have hLc:=spl_cnt 10 (s.take n);rw [List.length_take] at hLc;rw [hL] at H T hLc;refine asn T rfl fun _ T=> ?_;revert Q11 T;refine rg [5,30,17,4,3,2,0] (zz 0 [tt]) rfl fun _ Q12 T=>?_;refine asn T rfl fun _ T=> ?_;revert Q12 T;refine rq [6,5,30,17,4,3,2,0] rfl fun _ Q13 T=>?_;refine sj (zz 0 [tt]) rfl fun _ Q14=>?_;refine asn T rfl fun _ T=> ?_;revert Q14 T;refine rp [7,6,5,30,17,4,3,2,0] rfl fun T=>?_;refine wp_block ?_;replace H:=(H.nilR 31 7).famNil (α:=En) 53 4 En.rw;refine wp_loopH (G:=Nat × List En × Option Addr × Nat) (fun ⟨i,o,ad2,c2⟩=>[(6,.slice ad2 o.length c2),(7,.int .i64 (i:Int))]) (fun ⟨i,o,ad2,c2⟩=>[cR 31 7 ad2 (o).length c2 ((o).flatMap En.cells),cF 53 4 En.rw (o)]) (fun ⟨i,o,ad2,c2⟩=>i + 1≤L.length∧runX (L.take i) = some (o.map En.p)) (fun ⟨i,o,ad2,c2⟩=>L.length - i) (0,[],none,0) (T.keep [6,7,5,30,17,4,0] rfl) (H.keep [1,0,2] rfl rfl) (⟨hL0,rfl⟩) ?_;clear T H
  rintro ⟨i,o,ad2,c2⟩ a w6 hJ T H;replace T:=T.keep [6,7,5,30,17,4,0] rfl;replace H:=H.keep [0,1,2] rfl rfl;obtain ⟨hi,hr⟩:=hJ;have hlt:=lsum_lt hi;have hwd:=(wd_run _ _ hr).mono (m:=s.length) (by omega);have hol:o.length≤s.length:=by have:=hwd.l;rw [List.length_map] at this;exact this
  refine wp_seq_k fun _ Q15=>?_;refine sj (zz 0 [tt,tt,tt,tt,tt]) rfl fun _ Q16=>?_;refine mv T rfl fun _ T=> mv T rfl fun _ T=> tln T underlying82 rfl fun _ T=> tsb T rfl (by omega) fun _ T=> tlt T rfl fun _ T=> ?_;revert Q16 T;refine rif [39,6,7,5,30,17,4,0] rfl (fun T hc17=>?_) (fun T hc17=>?_)
  · try simp only [bq] at hc17
    obtain ⟨x,hx⟩:∃ q9,L[i]? = some q9:=⟨_,List.getElem?_eq_getElem (by omega)⟩;have hxl:=lsum_take hx;refine wp_skip ?_;revert Q15;refine nx fun _ Q18=>?_;refine wp_block ?_;refine wp_seq_k fun _ Q19=>?_;refine sj (zz 0 [tt,tt,tt,uu,tt,tt,tt,tt,tt,tt,uu,tt,tt,tt]) rfl fun _ Q20=>?_;refine mv T rfl fun _ T=> mv T rfl fun _ T=> ?_;refine tk T rfl (x_index (k:=i) T rfl underlying82 ti9 (((H.at 2 rfl):Ss _ _ kc 1 _).sv) rfl rfl rfl (by omega)) fun _ T=> ?_;refine rn T rfl (x_load1 T rfl fl9 rfl (((H.at 2 rfl):Ss _ _ kc 1 _).cell (i:=i) (j:=0) kc_len hx rfl)) fun _ T=> tls T underlying9 rfl fun _ T=> tgt T rfl fun _ T=> mv T rfl fun _ T=> ?_;refine Sl.two T 48 rfl (fun hc21 T=>?_) (fun hc21 T=>?_)
    · try simp only [bq] at hc21
      have hx2:=hc21;obtain ⟨c0,hx0⟩:∃ q9,x[0]? = some q9:=⟨_,List.getElem?_eq_getElem (by omega)⟩;refine mv T rfl fun _ T=> mv T rfl fun _ T=> ?_;refine tk T rfl (x_index (k:=i) T rfl underlying82 ti9 (((H.at 2 rfl):Ss _ _ kc 1 _).sv) rfl rfl rfl (by omega)) fun _ T=> ?_;refine rn T rfl (x_load1 T rfl fl9 rfl (((H.at 2 rfl):Ss _ _ kc 1 _).cell (i:=i) (j:=0) kc_len hx rfl)) fun _ T=> ?_;refine tk T rfl (x_indexStr (k:=0) T rfl underlying9 rfl rfl (by omega) hx0) fun _ T=> teq T rfl fun _ T=> pt T rfl fun _ T=> ?_;revert Q20 T;refine rif [55,39,6,7,5,30,17,4,0] rfl (fun T hc22=>?_) (fun T hc22=>?_)
      · try simp only [bq] at hc22
        have hx64:x[0]? = some 64:=by rw [hx0];exact congrArg some (u8_of (k:=64) (by decide) hc22)
        refine sj (zz 0 [tt,tt,tt,uu,uu,tt]) rfl fun _ Q23=>?_;refine mv T rfl fun _ T=> mv T rfl fun _ T=> ?_;refine tk T rfl (x_index (k:=i) T rfl underlying82 ti9 (((H.at 2 rfl):Ss _ _ kc 1 _).sv) rfl rfl rfl (by omega)) fun _ T=> ?_;refine rn T rfl (x_load1 T rfl fl9 rfl (((H.at 2 rfl):Ss _ _ kc 1 _).cell (i:=i) (j:=0) kc_len hx rfl)) fun _ T=> ?_;refine st_call T rfl rfl rfl rfl rfl can44 rfl (xSplit_calls x 32 (by omega) _) ?_;rintro _ w7 ⟨adp,cp9,rfl,K⟩;refine ⟨_,rfl,?_⟩;clear T;intro a T;replace H:=H.more K rfl;clear K;refine asn T rfl fun _ T=> ?_;revert Q23 T;refine rq [8,55,39,6,7,5,30,17,4,0] rfl fun _ Q24 T=>?_;refine sj (zz 0 [tt,tt,tt]) rfl fun _ Q25=>?_;refine mv T rfl fun _ T=> tln T underlying82 rfl fun _ T=> tne T rfl fun _ T=> ?_;revert Q25 T
        refine rif [63,8,55,39,6,7,5,30,17,4,0] rfl (fun T hc26=>?_) (fun T hc26=>?_)
        · try simp only [bq] at hc26
          have hl4:(spl 32 x).length ≠ 4:=by have h9:=hc26;omega
          refine sj (zz 0 [tt,tt]) rfl fun _ Q27=>?_;refine asn T rfl fun _ T=> asn T rfl fun _ T=> ?_;revert Q27 T;refine rp [3,2,63,8,55,39,6,7,5,30,17,4,0] rfl fun T=>?_;refine wp_ret <| then_ret ?_;refine then_ret <| block_ret ?_;refine then_ret <| then_ret ?_;refine block_ret <| then_ret ?_;refine dn2 Tryz.f17 T rfl ?_;have hp9:parseT s = ([],4):=parse_fail htl hsm (i:=i) (by rw [hah,hL];omega) (by rw [hah,hL,runX_at hx,hr];exact stepX_four ⟨by omega,hx64⟩ hl4);rw [hp9];exact ⟨none,0,[],rfl,rfl,Nat.zero_le _,(fun x hx=>by cases hx),((H.keep [] rfl rfl).famNil (α:=En) 53 4 En.rw).nilR 31 7⟩
        try simp only [bq] at hc26
        obtain ⟨p0,p1,p2,p3,hsp⟩:∃ p0 p1 p2 p3,spl 32 x = [p0,p1,p2,p3]:=by
          match spl 32 x,(by omega:(spl 32 x).length = 4) with
          | [a,b,c,d],_=>exact ⟨a,b,c,d,rfl⟩
        have hl1:=spl_len 32 x p1 (by rw [hsp];simp);have hl2:=spl_len 32 x p2 (by rw [hsp];simp);rw [hsp] at H T;refine wp_skip ?_;revert Q24;refine nx fun _ Q28=>?_;refine wp_text (zz 0 [tt,tt,uu,uu,tt,tt,tt,uu,uu,tt]) rfl ?_;refine mv T rfl fun _ T=> ?_;refine tk T rfl (x_index (k:=1) T rfl underlying82 ti9 (((H.at 0 rfl):Ss _ _ kc 1 _).sv) rfl rfl rfl (by first | omega | simp)) fun _ T=> ?_;refine rn T rfl (x_load1 T rfl fl9 rfl (((H.at 0 rfl):Ss _ _ kc 1 _).cell (i:=1) (j:=0) kc_len rfl rfl)) fun _ T=> ?_;refine st_call T rfl rfl rfl rfl rfl can45 rfl (xHParse_calls p1 (by omega) _) ?_;rintro _ w8 ⟨x1,y1,z1,r1,rfl,hp1,E⟩;refine ⟨_,rfl,?_⟩;clear T;intro a T;replace H:=H.pure E;clear E;refine mv T rfl fun _ T=> xt T rfl fun _ T=> xt T rfl fun _ T=> ?_;refine st_eff T rfl rfl rfl rfl (y_alloc T rfl ti28 rfl _) ?_;clear T;rintro _ w9 ⟨b1,rfl,N⟩ a T;replace H:=H.new N;clear N;refine stS 0 T H ti28 rfl rfl fun w10 H=>?_;refine asn T rfl fun _ T=> ?_;revert Q28 T;refine rq [9,63,8,55,39,6,7,5,30,17,4,0] rfl fun _ Q29 T=>?_;revert H;refine drw (Sx.No) [(0,.take),(1,.take),(2,.take),(3,.held),(5,.held),(4,.keep),(6,.take),(7,.run),(8,.run),(9,.take)] (by kernel_rfl) (by kernel_rfl) fun u H hH=>?_;have Hu:=H;refine mv T rfl fun _ T=> mv T rfl fun _ T=> ?_;refine tk T rfl (x_index (k:=2) T rfl underlying82 ti9 (((H.at 1 rfl):Ss _ _ kc 1 _).sv) rfl rfl rfl (by first | omega | simp)) fun _ T=> ?_;refine hed T rfl hH (fun w' h'=>x_load1 T rfl fl9 rfl (((Hu.held 1 rfl h' off_No):Ss _ _ kc 1 _).cell (i:=2) (j:=0) kc_len rfl rfl)) fun _ T=> ?_;refine hed T rfl hH (fun w' h'=>y_loadS T rfl underlying28 ti28 rfl ((Hu.heldB 0 rfl h' off_No).seg (k:=3) rfl) (by rfl)) fun _ T=> ?_;refine st_callkeep T rfl rfl rfl rfl rfl can46 rfl (xtxn_calls p2 (by omega) _) ?_;rintro _ w11 ⟨rfl,E⟩;refine ⟨_,rfl,hH.step E,?_⟩;replace hH:=hH.step E
        clear T;intro a T;replace H:=H.pure E;clear E;refine bd T bld31 rfl fun _ T=> ?_;refine st_eff T rfl rfl rfl rfl (y_slice1 T rfl underlying22 ti31 rfl rfl rfl rfl rfl rfl _) ?_;clear T;rintro _ w12 ⟨b2,rfl,N⟩ a T;replace H:=H.new N;clear N;refine st_eff T rfl rfl rfl rfl (x_append T rfl rfl underlying22 ti31 rfl (by decide) rfl rfl (H.row 3 rfl) ((H.blk 0 rfl).sv1 rfl) (by simp [Value.oneCell']) (fun h=>by cases h) (by unfold maxLen;omega) (by omega)) ?_;rintro _ w13 ⟨ad13,c13,rfl,hr,E,hown,-⟩;clear T;intro a T;replace H:=H.setR 3 rfl hr E hown rfl;clear hr E hown;rw [show o.flatMap En.cells++[Value.int .i64 (txnX p2).co,.int .i64 (txnX p2).li,.int .i64 (txnX p2).sq,.int .i64 x1,.int .i64 y1,.int .i64 z1,.slice none 0 0] = (o++[(⟨txnX p2,⟨x1,y1,z1⟩,none,0,[]⟩:En)]).flatMap En.cells from snoc_en2 (t:=txnX p2) (s:=⟨x1,y1,z1⟩),show o.length + 1 = (o++[(⟨txnX p2,⟨x1,y1,z1⟩,none,0,[]⟩:En)]).length from by simp] at H;rw [show o.length + 1 = (o++[(⟨txnX p2,⟨x1,y1,z1⟩,none,0,[]⟩:En)]).length from by simp] at T;replace H:=H.nilR 53 4;replace H:=H.famPut (x:=(⟨txnX p2,⟨x1,y1,z1⟩,none,0,[]⟩:En)) 5 0 rfl rfl rfl rfl [1,2,3,4,6] rfl rfl (show (o++[(⟨txnX p2,⟨x1,y1,z1⟩,none,0,[]⟩:En)]).Perm ((⟨txnX p2,⟨x1,y1,z1⟩,none,0,[]⟩:En) :: o) from List.perm_append_comm);refine asn T rfl ?_
        clear T;intro a T;replace T:=T.keep [6,9,63,8,55,39,7,5,30,17,4,0] rfl;clear Hu hH;refine ser_calm ?_;refine then_normal (Q29 _ _ ?_);clear Q29;refine wp_exit <| then_exit <| block_exit ?_;refine then_normal (Q18 _ _ ?_);clear Q18;refine wp_text (zz 0 [tt,tt,tt]) rfl ?_;refine mv T rfl fun _ T=> tad T rfl (by omega) fun _ T=> asn T rfl fun _ T=> ?_;replace T:=T.keep [7,6,9,63,8,55,39,5,30,17,4,0] rfl;refine ser_nil ?_;refine then_normal ?_;exact ⟨(i + 1,o++[(⟨txnX p2,⟨x1,y1,z1⟩,none,0,[]⟩:En)],ad13,c13),⟨by show i + 1 + 1≤_;omega,by show runX (L.take (i + 1)) = _;rw [runX_at hx,hr,Option.bind_some,stepX_h ⟨by omega,hx64⟩ hsp,stX_of hp1];simp [En.p]⟩,(T.keep [6,7,5,30,17,4,0] rfl),(H.keep [4,0,5] rfl rfl),by show _ - (i + 1) < _ - i;omega⟩
      try simp only [bq] at hc22
      have hx64:=hc22;refine wp_skip ?_;revert Q19;refine nx fun _ Q30=>?_;refine sj (zz 0 [tt,tt,tt,tt,tt,tt,tt,uu,tt,tt,tt]) rfl fun _ Q31=>?_;refine mv T rfl fun _ T=> tln T underlying22 rfl fun _ T=> teq T rfl fun _ T=> mv T rfl fun _ T=> ?_;refine Sl.two T 83 rfl (fun hc32 T=>?_) (fun hc32 T=>?_)
      · try simp only [bq] at hc32
        refine sk T rfl fun _ T=> sk T rfl fun _ T=> sk T rfl fun _ T=> ?_;refine st_runskip T rfl rfl rfl rfl fun _ T=> sk T rfl fun _ T=> sk T rfl fun _ T=> pt T rfl fun _ T=> ?_;replace T:=T.keep [90,55,39,6,7,5,30,17,4,0] rfl;refine ser_nil ?_;refine then_normal (Q31 _ _ ?_);clear Q31;refine wp_if T rfl (fun _=>?_) (fun h=>by cases h);refine sj (zz 0 [tt,tt]) rfl fun _ Q33=>?_;refine asn T rfl fun _ T=> asn T rfl fun _ T=> ?_;revert Q33 T;refine rp [3,2,90,55,39,6,7,5,30,17,4,0] rfl fun T=>?_;refine wp_ret <| then_ret ?_;refine block_ret <| then_ret ?_;refine then_ret <| block_ret <| then_ret ?_;refine dn2 Tryz.f17 T rfl ?_;have hp9:parseT s = ([],4):=parse_fail htl hsm (i:=i) (by rw [hah,hL];omega) (by rw [hah,hL,runX_at hx,hr];exact stepX_short (fun h9=>by rw [hx0] at h9;have h8:=Option.some.inj h9.2;subst h8;exact hx64 rfl) (.inl (by rw [show o = [] from List.eq_nil_of_length_eq_zero (by omega)];rfl)))
        rw [hp9];exact ⟨none,0,[],rfl,rfl,Nat.zero_le _,(fun x hx=>by cases hx),((H.keep [] rfl rfl).famNil (α:=En) 53 4 En.rw).nilR 31 7⟩
      try simp only [bq] at hc32
      have hon:=hc32;obtain ⟨A,g,rfl⟩:=snocE_of hon;have hAl:(A++[g]).length = A.length + 1:=by simp
      have hgl:g.ws.length≤s.length:=(hwd.e g.p (by simp)).2.2.1;refine mv T rfl fun _ T=> mv T rfl fun _ T=> ?_;refine tk T rfl (x_index (k:=i) T rfl underlying82 ti9 (((H.at 2 rfl):Ss _ _ kc 1 _).sv) rfl rfl rfl (by omega)) fun _ T=> ?_;refine rn T rfl (x_load1 T rfl fl9 rfl (((H.at 2 rfl):Ss _ _ kc 1 _).cell (i:=i) (j:=0) kc_len hx rfl)) fun _ T=> tls T underlying9 rfl fun _ T=> tlt T rfl fun _ T=> pf T rfl fun _ T=> ?_;revert Q31 T;refine rif [90,55,39,6,7,5,30,17,4,0] rfl (fun T hc34=>?_) (fun T hc34=>?_)
      · try simp only [bq] at hc34
        refine sj (zz 0 [tt,tt]) rfl fun _ Q35=>?_;refine asn T rfl fun _ T=> asn T rfl fun _ T=> ?_;revert Q35 T;refine rp [3,2,90,55,39,6,7,5,30,17,4,0] rfl fun T=>?_;refine wp_ret <| then_ret ?_;refine block_ret <| then_ret ?_;refine then_ret <| block_ret <| then_ret ?_;refine dn2 Tryz.f17 T rfl ?_;have hp9:parseT s = ([],4):=parse_fail htl hsm (i:=i) (by rw [hah,hL];omega) (by rw [hah,hL,runX_at hx,hr];exact stepX_short (fun h9=>by rw [hx0] at h9;have h8:=Option.some.inj h9.2;subst h8;exact hx64 rfl) (.inr (by omega)));rw [hp9];exact ⟨none,0,[],rfl,rfl,Nat.zero_le _,(fun x hx=>by cases hx),((H.keep [] rfl rfl).famNil (α:=En) 53 4 En.rw).nilR 31 7⟩
      try simp only [bq] at hc34
      have hx2l:2≤x.length:=by have h9:=hc34;omega
      refine wp_skip ?_;revert Q30;refine nx fun _ Q36=>?_;refine wp_text (zz 0 [tt,tt,tt,tt]) rfl ?_;refine mv T rfl fun _ T=> tln T underlying22 rfl fun _ T=> tsb T rfl (by omega) fun _ T=> ?_;rw [show ((A++[g]).length:Int) - 1 = (A.length:Int) from by simp] at T;refine asn T rfl fun _ T=> ?_;replace T:=T.keep [11,90,55,39,6,7,5,30,17,4,0] rfl;refine ser_nil ?_;refine then_normal (Q36 _ _ ?_);clear Q36;replace H:=H.famTake (x:=g) (L':=A) 1 rfl (show (A++[g]).Perm (g :: A) from List.perm_append_comm) rfl;replace H:Sx.Hp w No w6 (cR 53 4 g.ad g.ws.length g.c (g.ws.flatMap Wt.cells) :: _):=H;revert H;refine drw (Sx.No) [(0,.take),(1,.take),(2,.take),(3,.take),(4,.take),(5,.take),(6,.held),(7,.take),(8,.take),(9,.take),(10,.held),(11,.keep),(12,.keep),(13,.run),(14,.take),(15,.take),(16,.run)] (by kernel_rfl) (by kernel_rfl) fun u H hH=>?_;have Hu:=H;refine mv T rfl fun _ T=> mv T rfl ?_
      clear T;intro a T;refine mv T rfl fun _ T=> mv T rfl fun _ T=> ?_;refine tk T rfl (x_index (k:=A.length) T rfl underlying22 ti31 (H.row 1 rfl).sv rfl rfl (by first | rfl | omega) (by omega)) fun _ T=> fad T fa31_2 rfl fun _ T=> ?_;refine hed T rfl hH (fun w' h'=>x_load1 T rfl fl29 rfl (((Hu.heldR 1 rfl h' off_No).ssn (xs:=A++[g]) (enc:=En.cells) rfl).cell (i:=A.length) (j:=6) En.len (show (A++[g])[A.length]? = some g by simp) rfl)) fun _ T=> mv T rfl fun _ T=> mv T rfl fun _ T=> ?_;refine tk T rfl (x_index (k:=i) T rfl underlying82 ti9 (((H.at 3 rfl):Ss _ _ kc 1 _).sv) rfl rfl rfl (by omega)) fun _ T=> ?_;refine hed T rfl hH (fun w' h'=>x_load1 T rfl fl9 rfl (((Hu.held 3 rfl h' off_No):Ss _ _ kc 1 _).cell (i:=i) (j:=0) kc_len hx rfl)) fun _ T=> ?_;refine calk T hH H can47 rfl (xwrite_calls x (by omega) (by omega) _) fun w14 hH H _ T=> ?_;obtain ⟨wt,hwt⟩:∃ q,wrX x = q:=⟨_,rfl⟩
      rw [hwt] at T;refine st_effkeep T rfl rfl rfl rfl (y_slice1 T rfl underlying29 ti53 rfl rfl rfl rfl rfl rfl _) ?_;rintro _ w15 ⟨b3,rfl,N⟩;have q_b3:u.heap.size≤b3:=by have h8:=hH.size;have h9:=N.at_;omega
      refine ⟨hH.step N.ext,?_⟩;replace hH:=hH.step N.ext;clear T;intro a T;replace H:=H.new N;clear N;refine st_eff T rfl rfl rfl rfl (x_append T rfl rfl underlying29 ti53 rfl (by decide) rfl rfl (H.row 1 rfl) ((H.blk 0 rfl).sv1 rfl) (by simp [Value.oneCell']) (fun h=>by cases h) (by unfold maxLen;omega) (by omega)) ?_;rintro _ w16 ⟨ad16,c16,rfl,hr,E,hown,-⟩;clear T;intro a T;replace H:=H.setR 1 rfl hr E hown rfl;clear hr E hown;rw [show [Value.string ⟨wt.key.toArray⟩,Value.int .i64 wt.v.k,Value.float .f64 wt.v.num,Value.string ⟨wt.v.tx.toArray⟩] = Wt.cells wt from rfl,snoc_wt] at H;rw [show g.ws.length + 1 = (g.ws++[wt]).length from by simp] at H T;refine tk T rfl (x_index (k:=A.length) T rfl underlying22 ti31 (H.row 2 rfl).sv rfl rfl (by first | rfl | omega) (by omega)) fun _ T=> fad T fa31_2 rfl fun _ T=> ?_;refine st_act T rfl rfl rfl (x_storeRowF (k:=A.length) (j:=6) (enc:=En.cells) (xs:=A++[g]) (r:=g) (r':=(⟨g.t,g.s,ad16,c16,g.ws++[wt]⟩:En)) T rfl ti29 rfl rfl rfl En.len (H.row 2 rfl) (show (A++[g])[A.length]? = some g by simp) (by simp) (by decide) rfl) ?_;rintro w17 ⟨hr,E,_⟩;replace H:=H.setR 2 rfl hr E (fun _ hk=>.inl hk) rfl;clear hr E;rw [show (A++[g]).set A.length (⟨g.t,g.s,ad16,c16,g.ws++[wt]⟩:En) = A++[(⟨g.t,g.s,ad16,c16,g.ws++[wt]⟩:En)] from by rw [List.set_append_right _ _ (Nat.le_refl _),Nat.sub_self];rfl] at H
      rw [show (A++[g]).length = (A++[(⟨g.t,g.s,ad16,c16,g.ws++[wt]⟩:En)]).length from by simp] at H;replace H:=H.famPut (x:=(⟨g.t,g.s,ad16,c16,g.ws++[wt]⟩:En)) 3 1 rfl rfl rfl rfl [0,2,4] rfl rfl (show (A++[(⟨g.t,g.s,ad16,c16,g.ws++[wt]⟩:En)]).Perm ((⟨g.t,g.s,ad16,c16,g.ws++[wt]⟩:En) :: A) from List.perm_append_comm);rw [show (A++[g]).length = (A++[(⟨g.t,g.s,ad16,c16,g.ws++[wt]⟩:En)]).length from by simp] at T;replace T:=T.keep [11,90,55,39,6,7,5,30,17,4,0] rfl;clear Hu hH;refine ser_calm ?_;refine block_normal ?_;refine then_normal (Q18 _ _ ?_);clear Q18;refine wp_text (zz 0 [tt,tt,tt]) rfl ?_;refine mv T rfl fun _ T=> tad T rfl (by omega) fun _ T=> asn T rfl fun _ T=> ?_;replace T:=T.keep [7,11,90,55,39,6,5,30,17,4,0] rfl;refine ser_nil ?_;refine then_normal ?_;exact ⟨(i + 1,A++[(⟨g.t,g.s,ad16,c16,g.ws++[wt]⟩:En)],ad2,c2),⟨by show i + 1 + 1≤_;omega,by show runX (L.take (i + 1)) = _;rw [runX_at hx,hr,Option.bind_some,stepX_w (fun h9=>by rw [hx0] at h9;have h8:=Option.some.inj h9.2;subst h8;exact hx64 rfl) (by simp) hx2l,hwt,show (A++[g]).map En.p = A.map En.p++[g.p] from by simp,addW_snoc];simp [En.p]⟩,(T.keep [6,7,5,30,17,4,0] rfl),(H.keep [2,0,3] rfl rfl),by show _ - (i + 1) < _ - i;omega⟩
    try simp only [bq] at hc21
    have hx2:=hc21;refine sk T rfl fun _ T=> sk T rfl fun _ T=> sk T rfl fun _ T=> ?_;refine st_runskip T rfl rfl rfl rfl fun _ T=> sk T rfl fun _ T=> sk T rfl fun _ T=> pf T rfl fun _ T=> ?_;replace T:=T.keep [55,39,6,7,5,30,17,4,0] rfl;refine ser_nil ?_;refine then_normal (Q20 _ _ ?_);clear Q20;refine wp_if T rfl (fun h=>by cases h) (fun _=>?_);skip;refine wp_skip ?_;revert Q19;refine nx fun _ Q37=>?_;refine sj (zz 0 [tt,tt,tt,tt,tt,tt,tt,uu,tt,tt,tt]) rfl fun _ Q38=>?_;refine mv T rfl fun _ T=> tln T underlying22 rfl fun _ T=> teq T rfl fun _ T=> mv T rfl fun _ T=> ?_;refine Sl.two T 83 rfl (fun hc39 T=>?_) (fun hc39 T=>?_)
    · try simp only [bq] at hc39
      refine sk T rfl fun _ T=> sk T rfl fun _ T=> sk T rfl fun _ T=> ?_;refine st_runskip T rfl rfl rfl rfl fun _ T=> sk T rfl fun _ T=> sk T rfl fun _ T=> pt T rfl fun _ T=> ?_;replace T:=T.keep [90,55,39,6,7,5,30,17,4,0] rfl;refine ser_nil ?_;refine then_normal (Q38 _ _ ?_);clear Q38;refine wp_if T rfl (fun _=>?_) (fun h=>by cases h);refine sj (zz 0 [tt,tt]) rfl fun _ Q40=>?_;refine asn T rfl fun _ T=> asn T rfl fun _ T=> ?_;revert Q40 T;refine rp [3,2,90,55,39,6,7,5,30,17,4,0] rfl fun T=>?_;refine wp_ret <| then_ret ?_;refine block_ret <| then_ret ?_;refine then_ret <| block_ret <| then_ret ?_;refine dn2 Tryz.f17 T rfl ?_;have hp9:parseT s = ([],4):=parse_fail htl hsm (i:=i) (by rw [hah,hL];omega) (by rw [hah,hL,runX_at hx,hr];exact stepX_short (fun h9=>by omega) (.inl (by rw [show o = [] from List.eq_nil_of_length_eq_zero (by omega)];rfl)))
      rw [hp9];exact ⟨none,0,[],rfl,rfl,Nat.zero_le _,(fun x hx=>by cases hx),((H.keep [] rfl rfl).famNil (α:=En) 53 4 En.rw).nilR 31 7⟩
    try simp only [bq] at hc39
    have hon:=hc39;obtain ⟨A,g,rfl⟩:=snocE_of hon;have hAl:(A++[g]).length = A.length + 1:=by simp
    have hgl:g.ws.length≤s.length:=(hwd.e g.p (by simp)).2.2.1;refine mv T rfl fun _ T=> mv T rfl fun _ T=> ?_;refine tk T rfl (x_index (k:=i) T rfl underlying82 ti9 (((H.at 2 rfl):Ss _ _ kc 1 _).sv) rfl rfl rfl (by omega)) fun _ T=> ?_;refine rn T rfl (x_load1 T rfl fl9 rfl (((H.at 2 rfl):Ss _ _ kc 1 _).cell (i:=i) (j:=0) kc_len hx rfl)) fun _ T=> tls T underlying9 rfl fun _ T=> tlt T rfl fun _ T=> pf T rfl fun _ T=> ?_;revert Q38 T;refine rif [90,55,39,6,7,5,30,17,4,0] rfl (fun T hc41=>?_) (fun T hc41=>?_)
    · try simp only [bq] at hc41
      refine sj (zz 0 [tt,tt]) rfl fun _ Q42=>?_;refine asn T rfl fun _ T=> asn T rfl fun _ T=> ?_;revert Q42 T;refine rp [3,2,90,55,39,6,7,5,30,17,4,0] rfl fun T=>?_;refine wp_ret <| then_ret ?_;refine block_ret <| then_ret ?_;refine then_ret <| block_ret <| then_ret ?_;refine dn2 Tryz.f17 T rfl ?_;have hp9:parseT s = ([],4):=parse_fail htl hsm (i:=i) (by rw [hah,hL];omega) (by rw [hah,hL,runX_at hx,hr];exact stepX_short (fun h9=>by omega) (.inr (by omega)));rw [hp9];exact ⟨none,0,[],rfl,rfl,Nat.zero_le _,(fun x hx=>by cases hx),((H.keep [] rfl rfl).famNil (α:=En) 53 4 En.rw).nilR 31 7⟩
    try simp only [bq] at hc41
    have hx2l:2≤x.length:=by have h9:=hc41;omega
    refine wp_skip ?_;revert Q37;refine nx fun _ Q43=>?_;refine wp_text (zz 0 [tt,tt,tt,tt]) rfl ?_;refine mv T rfl fun _ T=> tln T underlying22 rfl fun _ T=> tsb T rfl (by omega) fun _ T=> ?_;rw [show ((A++[g]).length:Int) - 1 = (A.length:Int) from by simp] at T;refine asn T rfl fun _ T=> ?_;replace T:=T.keep [11,90,55,39,6,7,5,30,17,4,0] rfl;refine ser_nil ?_;refine then_normal (Q43 _ _ ?_);clear Q43;replace H:=H.famTake (x:=g) (L':=A) 1 rfl (show (A++[g]).Perm (g :: A) from List.perm_append_comm) rfl;replace H:Sx.Hp w No w6 (cR 53 4 g.ad g.ws.length g.c (g.ws.flatMap Wt.cells) :: _):=H;revert H;refine drw (Sx.No) [(0,.take),(1,.take),(2,.take),(3,.take),(4,.take),(5,.take),(6,.held),(7,.take),(8,.take),(9,.take),(10,.held),(11,.keep),(12,.keep),(13,.run),(14,.take),(15,.take),(16,.run)] (by kernel_rfl) (by kernel_rfl) fun u H hH=>?_;have Hu:=H;refine mv T rfl fun _ T=> mv T rfl ?_
    clear T;intro a T;refine mv T rfl fun _ T=> mv T rfl fun _ T=> ?_;refine tk T rfl (x_index (k:=A.length) T rfl underlying22 ti31 (H.row 1 rfl).sv rfl rfl (by first | rfl | omega) (by omega)) fun _ T=> fad T fa31_2 rfl fun _ T=> ?_;refine hed T rfl hH (fun w' h'=>x_load1 T rfl fl29 rfl (((Hu.heldR 1 rfl h' off_No).ssn (xs:=A++[g]) (enc:=En.cells) rfl).cell (i:=A.length) (j:=6) En.len (show (A++[g])[A.length]? = some g by simp) rfl)) fun _ T=> mv T rfl fun _ T=> mv T rfl fun _ T=> ?_;refine tk T rfl (x_index (k:=i) T rfl underlying82 ti9 (((H.at 3 rfl):Ss _ _ kc 1 _).sv) rfl rfl rfl (by omega)) fun _ T=> ?_;refine hed T rfl hH (fun w' h'=>x_load1 T rfl fl9 rfl (((Hu.held 3 rfl h' off_No):Ss _ _ kc 1 _).cell (i:=i) (j:=0) kc_len hx rfl)) fun _ T=> ?_;refine calk T hH H can47 rfl (xwrite_calls x (by omega) (by omega) _) fun w18 hH H _ T=> ?_;obtain ⟨wt,hwt⟩:∃ q,wrX x = q:=⟨_,rfl⟩
    rw [hwt] at T;refine st_effkeep T rfl rfl rfl rfl (y_slice1 T rfl underlying29 ti53 rfl rfl rfl rfl rfl rfl _) ?_;rintro _ w19 ⟨b4,rfl,N⟩;have q_b4:u.heap.size≤b4:=by have h8:=hH.size;have h9:=N.at_;omega
    refine ⟨hH.step N.ext,?_⟩;replace hH:=hH.step N.ext;clear T;intro a T;replace H:=H.new N;clear N;refine st_eff T rfl rfl rfl rfl (x_append T rfl rfl underlying29 ti53 rfl (by decide) rfl rfl (H.row 1 rfl) ((H.blk 0 rfl).sv1 rfl) (by simp [Value.oneCell']) (fun h=>by cases h) (by unfold maxLen;omega) (by omega)) ?_;rintro _ w20 ⟨ad20,c20,rfl,hr,E,hown,-⟩;clear T;intro a T;replace H:=H.setR 1 rfl hr E hown rfl;clear hr E hown;rw [show [Value.string ⟨wt.key.toArray⟩,Value.int .i64 wt.v.k,Value.float .f64 wt.v.num,Value.string ⟨wt.v.tx.toArray⟩] = Wt.cells wt from rfl,snoc_wt] at H;rw [show g.ws.length + 1 = (g.ws++[wt]).length from by simp] at H T;refine tk T rfl (x_index (k:=A.length) T rfl underlying22 ti31 (H.row 2 rfl).sv rfl rfl (by first | rfl | omega) (by omega)) fun _ T=> fad T fa31_2 rfl fun _ T=> ?_;refine st_act T rfl rfl rfl (x_storeRowF (k:=A.length) (j:=6) (enc:=En.cells) (xs:=A++[g]) (r:=g) (r':=(⟨g.t,g.s,ad20,c20,g.ws++[wt]⟩:En)) T rfl ti29 rfl rfl rfl En.len (H.row 2 rfl) (show (A++[g])[A.length]? = some g by simp) (by simp) (by decide) rfl) ?_;rintro w21 ⟨hr,E,_⟩;replace H:=H.setR 2 rfl hr E (fun _ hk=>.inl hk) rfl;clear hr E;rw [show (A++[g]).set A.length (⟨g.t,g.s,ad20,c20,g.ws++[wt]⟩:En) = A++[(⟨g.t,g.s,ad20,c20,g.ws++[wt]⟩:En)] from by rw [List.set_append_right _ _ (Nat.le_refl _),Nat.sub_self];rfl] at H
    rw [show (A++[g]).length = (A++[(⟨g.t,g.s,ad20,c20,g.ws++[wt]⟩:En)]).length from by simp] at H;replace H:=H.famPut (x:=(⟨g.t,g.s,ad20,c20,g.ws++[wt]⟩:En)) 3 1 rfl rfl rfl rfl [0,2,4] rfl rfl (show (A++[(⟨g.t,g.s,ad20,c20,g.ws++[wt]⟩:En)]).Perm ((⟨g.t,g.s,ad20,c20,g.ws++[wt]⟩:En) :: A) from List.perm_append_comm);rw [show (A++[g]).length = (A++[(⟨g.t,g.s,ad20,c20,g.ws++[wt]⟩:En)]).length from by simp] at T;replace T:=T.keep [11,90,55,39,6,7,5,30,17,4,0] rfl;clear Hu hH;refine ser_calm ?_;refine block_normal ?_;refine then_normal (Q18 _ _ ?_);clear Q18;refine wp_text (zz 0 [tt,tt,tt]) rfl ?_;refine mv T rfl fun _ T=> tad T rfl (by omega) fun _ T=> asn T rfl fun _ T=> ?_;replace T:=T.keep [7,11,90,55,39,6,5,30,17,4,0] rfl;refine ser_nil ?_;refine then_normal ?_;exact ⟨(i + 1,A++[(⟨g.t,g.s,ad20,c20,g.ws++[wt]⟩:En)],ad2,c2),⟨by show i + 1 + 1≤_;omega,by show runX (L.take (i + 1)) = _;rw [runX_at hx,hr,Option.bind_some,stepX_w (fun h9=>by omega) (by simp) hx2l,hwt,show (A++[g]).map En.p = A.map En.p++[g.p] from by simp,addW_snoc];simp [En.p]⟩,(T.keep [6,7,5,30,17,4,0] rfl),(H.keep [2,0,3] rfl rfl),by show _ - (i + 1) < _ - i;omega⟩
  try simp only [bq] at hc17
  obtain rfl:i = L.length - 1:=by omega
  rw [← List.dropLast_eq_take] at hr;have hpp9:=parse_prn htl hsm (by rw [hah,hL];exact hr) hwd;obtain ⟨hpp,hpb⟩:=hwd.prp (by omega);refine wp_exit <| then_exit ?_;refine then_exit <| block_exit ?_;revert Q13;refine nx fun _ Q44=>?_;refine wp_text (zz 0 [tt,uu,tt,tt,tt,tt,tt]) rfl ?_;refine mv T rfl fun _ T=> ?_;refine cal T H can12 rfl (xPrintL_calls o ((H.row 0 rfl).ssn rfl) (fun x hx=>prE_of (fam_ss (H.fam 1 rfl) hx) (hpp x.p (List.mem_map_of_mem hx))) (by have:=hwd.l;rw [List.length_map] at this;omega) (by omega)) fun w22 H _ T=> mv T rfl fun _ T=> xt T rfl fun _ T=> xt T rfl fun _ T=> asn T rfl fun _ T=> asn T rfl fun _ T=> ?_;revert Q44 T;refine rq [13,12,39,6,7,5,30,17,4,0] rfl fun _ Q45 T=>?_;refine sj (zz 0 [tt,tt,tt,tt,tt,tt,tt]) rfl fun _ Q46=>?_
  refine mv T rfl fun _ T=> tne T rfl fun _ T=> mv T rfl fun _ T=> ?_;refine Sl.two T 117 rfl (fun hc47 T=>?_) (fun hc47 T=>?_)
  · try simp only [bq] at hc47
    have hpe:=hc47;refine sk T rfl fun _ T=> sk T rfl fun _ T=> sk T rfl fun _ T=> pt T rfl fun _ T=> ?_;replace T:=T.keep [121,13,12,39,6,7,5,30,17,4,0] rfl;refine ser_nil ?_;refine then_normal (Q46 _ _ ?_);clear Q46;refine wp_if T rfl (fun _=>?_) (fun h=>by cases h);refine sj (zz 0 [tt,tt]) rfl fun _ Q48=>?_;refine asn T rfl fun _ T=> asn T rfl fun _ T=> ?_;revert Q48 T;refine rp [3,2,121,13,12,39,6,7,5,30,17,4,0] rfl fun T=>?_;refine wp_ret <| then_ret ?_;refine dn2 Tryz.f17 T rfl ?_;have hp9:parseT s = ([],4):=hpp9.trans (if_neg (fun h9=>hpe (by rw [h9])));rw [hp9];exact ⟨none,0,[],rfl,rfl,Nat.zero_le _,(fun x hx=>by cases hx),((H.keep [] rfl rfl).famNil (α:=En) 53 4 En.rw).nilR 31 7⟩
  try simp only [bq] at hc47
  have hpz:(printL (o.map En.p)).2 = 0:=by simpa using hc47
  refine mv T rfl fun _ T=> mv T rfl fun _ T=> tsn T rfl fun _ T=> pf T rfl fun _ T=> ?_;revert Q46 T;refine rif [121,13,12,39,6,7,5,30,17,4,0] rfl (fun T hc49=>?_) (fun T hc49=>?_)
  · try simp only [bq] at hc49
    try (have hpe:=hc49)
    refine sj (zz 0 [tt,tt]) rfl fun _ Q50=>?_;refine asn T rfl fun _ T=> asn T rfl fun _ T=> ?_;revert Q50 T;refine rp [3,2,121,13,12,39,6,7,5,30,17,4,0] rfl fun T=>?_;refine wp_ret <| then_ret ?_;refine dn2 Tryz.f17 T rfl ?_;have hp9:parseT s = ([],4):=hpp9.trans (if_neg (fun h9=>hpe (by rw [h9])));rw [hp9];exact ⟨none,0,[],rfl,rfl,Nat.zero_le _,(fun x hx=>by cases hx),((H.keep [] rfl rfl).famNil (α:=En) 53 4 En.rw).nilR 31 7⟩
  try simp only [bq] at hc49
  have hpe:=hc49;refine wp_skip ?_;revert Q45;refine nx fun _ Q51=>?_;refine wp_text (zz 0 [tt,tt,tt]) rfl ?_;refine mv T rfl fun _ T=> asn T rfl fun _ T=> asn T rfl fun _ T=> ?_;revert Q51 T;refine rp [3,2,121,13,12,39,6,7,5,30,17,4,0] rfl fun T=>?_;refine wp_ret ?_;refine dn2 Tryz.f17 T rfl ?_;have hp9:parseT s = (o.map En.p,0):=hpp9.trans (if_pos (Prod.ext hpe hpz));rw [hp9];exact ⟨ad2,c2,o,rfl,rfl,(by have:=hwd.l;rw [List.length_map] at this;omega),(fun x hx=>by obtain ⟨-,-,h9,-⟩:=hwd.e x.p (List.mem_map_of_mem hx);exact h9),H.keep [0,1] rfl rfl⟩
theorem xJoin_calls (x y:List UInt8) (hx:x.length≤30000) (hy:y.length≤30000) (w:World):Calls Tryz.prog 16 #[.string ⟨x.toArray⟩,.string ⟨y.toArray⟩] w fun e w'=>e = .returned (.tuple #[.string ⟨(joinT x y).1.toArray⟩,.int .i64 (joinT x y).2])∧Ext No w w':=by
  refine calls_into func16 rfl ntmps16 rfl fun _ T=> ?_;replace T:=T.keep [0,1] rfl;have H:Sx.Hp w (Sx.No) w []:=Sx.Hp.start _ _;refine sj (zz 0 [tt,tt]) rfl fun _ Q1=>?_;refine asn T rfl fun _ T=> asn T rfl fun _ T=> ?_;revert Q1 T;refine rg [5,4,0,1] (zz 0 [tt,uu,tt,tt,tt,tt,tt]) rfl fun _ Q2 T=>?_;refine mv T rfl fun _ T=> ?_;refine st_call T rfl rfl rfl rfl rfl can17 rfl (xLParse_calls x hx _) ?_;rintro _ w1 ⟨ad1,c1,l1,rfl,hm1,hl1,hw1,K⟩;refine ⟨_,rfl,?_⟩;clear T;intro a T;replace H:=H.more K rfl;clear K;refine mv T rfl fun _ T=> xt T rfl fun _ T=> xt T rfl fun _ T=> asn T rfl fun _ T=> asn T rfl fun _ T=> ?_;revert Q2 T;refine rq [7,6,5,4,0,1] rfl fun _ Q3 T=>?_
  refine sj (zz 0 [tt,tt]) rfl fun _ Q4=>?_;refine mv T rfl fun _ T=> tne T rfl fun _ T=> ?_;revert Q4 T;refine rif [16,7,6,5,4,0,1] rfl (fun T hc5=>?_) (fun T hc5=>?_)
  · try simp only [bq] at hc5
    have hne9:¬ (parseT x).2 = 0:=hc5;refine sj (zz 0 [tt,tt,tt]) rfl fun _ Q6=>?_;refine mv T rfl fun _ T=> asn T rfl fun _ T=> asn T rfl fun _ T=> ?_;revert Q6 T;refine rp [5,4,16,7,6,0,1] rfl fun T=>?_;refine wp_ret <| then_ret ?_;refine dn2 Tryz.f16 T rfl ?_;unfold joinT;rw [if_neg (fun h9=>hne9 h9)];exact ⟨rfl,H.ext⟩
  try simp only [bq] at hc5
  have hz1:(parseT x).2 = 0:=hc5;refine wp_skip ?_;revert Q3;refine nx fun _ Q7=>?_;refine wp_text (zz 0 [tt,uu,tt,tt,tt,tt,tt]) rfl ?_;refine mv T rfl fun _ T=> ?_;refine st_call T rfl rfl rfl rfl rfl can17 rfl (xLParse_calls y hy _) ?_;rintro _ w2 ⟨ad2,c2,l2,rfl,hm2,hl2,hw2,K⟩;refine ⟨_,rfl,?_⟩;clear T;intro a T;replace H:=H.more K rfl;clear K;refine mv T rfl fun _ T=> xt T rfl fun _ T=> xt T rfl fun _ T=> asn T rfl fun _ T=> asn T rfl fun _ T=> ?_;revert Q7 T;refine rq [9,8,16,7,6,5,4,0,1] rfl fun _ Q8 T=>?_;refine sj (zz 0 [tt,tt]) rfl fun _ Q9=>?_;refine mv T rfl fun _ T=> tne T rfl fun _ T=> ?_;revert Q9 T;refine rif [24,9,8,16,7,6,5,4,0,1] rfl (fun T hc10=>?_) (fun T hc10=>?_)
  · try simp only [bq] at hc10
    have hne9:¬ (parseT y).2 = 0:=hc10;refine sj (zz 0 [tt,tt,tt]) rfl fun _ Q11=>?_;refine mv T rfl fun _ T=> asn T rfl fun _ T=> asn T rfl fun _ T=> ?_;revert Q11 T;refine rp [5,4,24,9,8,16,7,6,0,1] rfl fun T=>?_;refine wp_ret <| then_ret ?_;refine dn2 Tryz.f16 T rfl ?_;unfold joinT;rw [if_pos hz1,if_neg (fun h9=>hne9 h9)];exact ⟨rfl,H.ext⟩
  try simp only [bq] at hc10
  have hz2:(parseT y).2 = 0:=hc10;refine wp_skip ?_;revert Q8;refine nx fun _ Q12=>?_;refine wp_text (zz 0 [tt,tt,uu,uu,tt,tt,tt,tt]) rfl ?_;refine mv T rfl fun _ T=> mv T rfl fun _ T=> ?_;refine st_eff T rfl rfl rfl rfl (x_append T rfl rfl underlying22 ti31 rfl (by decide) rfl rfl (H.row 2 rfl) ((H.row 0 rfl).sv) (fun u hu=>flat_one En.one _ u hu) (rownil (H.row 0 rfl)) (by unfold maxLen;omega) (by omega)) ?_;rintro _ w3 ⟨ad3,c3,rfl,hr,E,hown,-⟩;clear T;intro a T;replace H:=H.setR 2 rfl hr E hown rfl;clear hr E hown;rw [← List.flatMap_append,show l1.length + l2.length = (l1++l2).length from List.length_append.symm] at H;rw [show l1.length + l2.length = (l1++l2).length from List.length_append.symm] at T;refine cal T H can12 rfl (xPrintL_calls (l1++l2) ((H.row 2 rfl).ssn (by simp)) (fun q hq=>(List.mem_append.1 hq).elim (fun h9=>prE_of (fam_ss (H.fam 3 rfl) h9) (prp_good (parseT_good x) q.p (by rw [← hm1];exact List.mem_map_of_mem h9))) (fun h9=>prE_of (fam_ss (H.fam 1 rfl) h9) (prp_good (parseT_good y) q.p (by rw [← hm2];exact List.mem_map_of_mem h9)))) (by rw [List.length_append];have k1:=body_cnt (parseT x).1;have k2:=body_cnt (parseT y).1;have k3:=parse_body x;have k4:=parse_body y;rw [← hm1,List.length_map,hm1] at k1;rw [← hm2,List.length_map,hm2] at k2;omega) (by rw [List.map_append,hm1,hm2,body_app,List.length_append];have:=parse_body x;have:=parse_body y;omega)) fun w4 H _ T=> ?_;rw [List.map_append,hm1,hm2] at T;refine xt T rfl fun _ T=> xt T rfl fun _ T=> asn T rfl fun _ T=> asn T rfl fun _ T=> ?_;revert Q12 T;refine rp [5,4,24,9,8,16,7,6,0,1] rfl fun T=>?_;refine wp_ret ?_;refine dn2 Tryz.f16 T rfl ?_;unfold joinT;rw [if_pos hz1,if_pos hz2];exact ⟨rfl,H.ext⟩
set_option maxHeartbeats 1600000 in
theorem Joins_all (x y:List UInt8) (hx9:x.length≤9223372036854775807) (hy9:y.length≤9223372036854775807) {w:World} (hE:Env2 w):Calls Tryz.prog 5 #[.string ⟨x.toArray⟩,.string ⟨y.toArray⟩] w fun e w'=>e = .returned (.bool true)∧Ext No w w':=by
  have RE:Ro w No Env2:=Ro.of fun w' x=>Env2.ext hE x;refine calls_into func5 rfl ntmps5 rfl fun _ T=> ?_;replace T:=T.keep [0,1] rfl;have H:Sx.Hp w (Sx.No) w []:=Sx.Hp.start _ _;refine sj (zz 0 [tt]) rfl fun _ Q1=>?_;refine asn T rfl fun _ T=> ?_;revert Q1 T;refine rq [4,0,1] rfl fun _ Q2 T=>?_;refine sj (zz 0 [uu,tt]) rfl fun _ Q3=>?_;refine cal T H can8 rfl (first_calls _ (RE.at H.ext)) fun w1 H _ T=> nt T rfl fun _ T=> ?_;replace T:=T.keep [10,4,0,1] rfl;refine ser_nil ?_;refine then_normal (Q3 _ _ ?_);clear Q3;refine wp_if T rfl (fun h=>by cases h) (fun _=>?_);refine wp_skip ?_;revert Q2;refine nx fun _ Q4=>?_;refine sj (zz 0 [tt,tt,tt,tt,tt,tt,tt,tt]) rfl fun _ Q5=>?_;refine mv T rfl fun _ T=> tls T underlying9 rfl fun _ T=> tgt T rfl ?_
  clear T;intro a T;refine mv T rfl fun _ T=> ?_;refine Sl.two T 14 rfl (fun hc6 T=>?_) (fun hc6 T=>?_)
  · try simp only [bq] at hc6
    refine sk T rfl fun _ T=> sk T rfl fun _ T=> sk T rfl fun _ T=> pt T rfl fun _ T=> ?_;replace T:=T.keep [18,10,4,0,1] rfl;refine ser_nil ?_;refine then_normal (Q5 _ _ ?_);clear Q5;refine wp_if T rfl (fun _=>?_) (fun h=>by cases h);refine sj (zz 0 [uu,tt]) rfl fun _ Q7=>?_;refine cal T H can8 rfl (first_calls _ (RE.at H.ext)) fun w2 H _ T=> asn T rfl fun _ T=> ?_;revert Q7 T;refine rp [4,18,10,0,1] rfl fun T=>?_;refine wp_ret <| then_ret ?_;refine dn Tryz.f5 T rfl ?_;exact ⟨ret_b (by simp),H.ext⟩
  try simp only [bq] at hc6
  refine mv T rfl fun _ T=> tls T underlying9 rfl fun _ T=> tgt T rfl fun _ T=> pf T rfl fun _ T=> ?_;revert Q5 T;refine rif [18,10,4,0,1] rfl (fun T hc8=>?_) (fun T hc8=>?_)
  · try simp only [bq] at hc8
    refine sj (zz 0 [uu,tt]) rfl fun _ Q9=>?_;refine cal T H can8 rfl (first_calls _ (RE.at H.ext)) fun w3 H _ T=> asn T rfl fun _ T=> ?_;revert Q9 T;refine rp [4,18,10,0,1] rfl fun T=>?_;refine wp_ret <| then_ret ?_;refine dn Tryz.f5 T rfl ?_;exact ⟨ret_b (by simp),H.ext⟩
  try simp only [bq] at hc8
  refine wp_skip ?_;revert Q4;refine nx fun _ Q10=>?_;refine wp_text (zz 0 [tt,tt,uu,tt,tt,tt,tt,tt]) rfl ?_;refine mv T rfl fun _ T=> mv T rfl fun _ T=> ?_;refine cal T H can15 rfl (Join_calls x y (by omega) (NL.short (by omega)) (by omega) (NL.short (by omega)) (RE.at H.ext)) fun w4 H _ T=> mv T rfl fun _ T=> xt T rfl fun _ T=> xt T rfl fun _ T=> asn T rfl fun _ T=> asn T rfl fun _ T=> ?_;revert Q10 T;refine rg [6,5,18,10,4,0,1] (zz 0 [tt,tt,uu,tt,tt,tt,tt,tt]) rfl fun _ Q11 T=>?_;refine mv T rfl fun _ T=> mv T rfl fun _ T=> ?_;refine cal T H can16 rfl (xJoin_calls x y (by omega) (by omega) _) fun w5 H _ T=> mv T rfl fun _ T=> xt T rfl fun _ T=> xt T rfl fun _ T=> asn T rfl fun _ T=> asn T rfl fun _ T=> ?_;revert Q11 T;refine rg [8,7,6,5,18,10,4,0,1] (zz 0 [uu,tt,tt,tt,tt,tt,tt,tt,tt,tt,tt,tt]) rfl fun _ Q12 T=>?_;refine cal T H can8 rfl (first_calls _ (RE.at H.ext)) fun w6 H _ T=> mv T rfl fun _ T=> mv T rfl fun _ T=> mv T rfl fun _ T=> tse T rfl fun _ T=> pt T rfl fun _ T=> mv T rfl ?_
  clear T;intro a T;refine Sl.two T 38 rfl (fun hc13 T=>?_) (fun hc13 T=>?_)
  · try simp only [bq] at hc13
    refine mv T rfl fun _ T=> mv T rfl fun _ T=> teq T rfl fun _ T=> pt T rfl fun _ T=> asn T rfl fun _ T=> ?_;revert Q12 T;refine rp [4,8,7,6,5,18,10,0,1] rfl fun T=>?_;refine wp_ret ?_;refine dn Tryz.f5 T rfl ?_;exact ⟨ret_b (by simp),H.ext⟩
  exfalso
  try simp only [bq] at hc13
  first | exact hc13 rfl | exact hc13 trivial
end Go.Proofs.YtonnladboikmhaaGreatDoor
