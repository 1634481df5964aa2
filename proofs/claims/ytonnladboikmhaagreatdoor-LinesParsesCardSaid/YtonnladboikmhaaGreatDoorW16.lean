/- Walks: LinesBack. -/
import Derived.Test.YtonnladboikmhaaGreatDoorW13
set_option linter.unusedSimpArgs false
set_option linter.unusedVariables false
namespace Go.Proofs.YtonnladboikmhaaGreatDoor
namespace Tryz
end Tryz
open Go.Proofs.Tryz Go.Proofs.YtonnladboikmhaaGreatDoor.Tryz
open Sx
theorem Tryz.can18:Sx.Can Tryz.prog 18:=⟨_,func18,by kernel_rfl,rfl⟩
theorem Tryz.can20:Sx.Can Tryz.prog 20:=⟨_,func20,by kernel_rfl,rfl⟩
/-! a text that is read without fault is a printed one -/
theorem parseB_ok {b:Key} (h:(parseB b).2 = 0):∃ l,Good l∧bodyT l = b:=by
  unfold parseB at h
  split at h
  · rename_i h1;exact h1
  cases h
theorem parse_ok {s:Key} (h:(parseT s).2 = 0):∃ l,Good l∧textT l = s∧parseT s = (l,0):=by
  have h9:=h
  unfold parseT at h9
  split at h9
  · rename_i ht
    split at h9
    · rename_i hs
      obtain ⟨l,hl,hb⟩:=parseB_ok h9
      obtain ⟨n,hn⟩:∃ n,s.length = n + 11:=⟨s.length - 11,by have:=tail_len ht;omega⟩
      obtain ⟨ha,hd⟩:=ahead_at hn
      obtain ⟨-,-,-,h10⟩:=(tail_iff hn).1 ht
      have e:textT l = s:=by
        unfold textT
        rw [hb,← hs,hd,ha]
        obtain ⟨hi,hv⟩:=List.getElem?_eq_some_iff.1 h10
        have e1:s = s.take (n + 10)++[10]:=by
          conv=>lhs;rw [← List.take_append_drop (n + 10) s,List.drop_eq_getElem_cons hi,hv,List.drop_eq_nil_of_le (by omega)]
        have e2:s.take (n + 10) = s.take n++(s.take (n + 10)).drop n:=by
          conv=>lhs;rw [← List.take_append_drop n (s.take (n + 10)),List.take_take,Nat.min_eq_left (by omega)]
        rw [← List.append_assoc,← e2,← e1]
      exact ⟨l,hl,e,by rw [← e];exact parseT_text hl⟩
    cases h9
  cases h9
theorem parse_bad {s:Key} (h:(parseT s).2 ≠ 0):(parseT s).1 = []:=by
  unfold parseT at h ⊢
  split
  · split
    · rename_i h1 h2
      rw [if_pos h1,if_pos h2] at h
      unfold parseB at h ⊢
      split
      · rename_i h3
        rw [dif_pos h3] at h
        exact absurd rfl h
      rfl
    rfl
  rfl
theorem text_split (l:List Ep):(textT l).length = (bodyT l).length + 11∧(textT l).take (bodyT l).length = bodyT l∧(textT l).drop (bodyT l).length = sumT (bodyT l)++[10]:=by
  unfold textT
  refine ⟨?_,List.take_left ..,List.drop_left ..⟩
  unfold sumT
  simp [hex8_len]
/-! printed texts are short, their lines too -/
/-! a text turned into bytes of one's own: a mark lies behind its last cell -/
def Bt (w:World) (b:Nat) (s:Key):Prop:=∃ (junk:List Value) (e:TypeId) (sz:Nat),w.heap[b]? = some (.cells (bcells s++junk).toArray e (sz,sz + 1))∧sz = (bcells s++junk).length
theorem Bt.ext {w w':World} {b:Nat} {s:Key} {S:Nat→Prop} (h:Bt w b s) (x:Ext S w w') (hb:¬ S b):Bt w' b s:=by
  obtain ⟨junk,e,sz,h1,h2⟩:=h
  exact ⟨junk,e,sz,(x.block b (Array.getElem?_eq_some_iff.1 h1).1 hb).trans h1,h2⟩
theorem Bt.lt {w:World} {b:Nat} {s:Key} (h:Bt w b s):b < w.heap.size:=by
  obtain ⟨junk,e,sz,h1,-⟩:=h
  exact (Array.getElem?_eq_some_iff.1 h1).1
theorem bcells_at {s:Key} {j:Nat} {c:UInt8} (h:s[j]? = some c):(bcells s)[j]? = some (.int .u8 c.toNat):=by
  unfold bcells
  rw [List.getElem?_map,h]
  rfl
theorem bcells_len (s:Key):(bcells s).length = s.length:=by unfold bcells;simp
theorem Bt.at_ {w:World} {b:Nat} {s:Key} (h:Bt w b s) {j:Nat} {c:UInt8} (hc:s[j]? = some c):w.cell? ⟨b,j,none⟩ = some (.int .u8 c.toNat):=by
  obtain ⟨junk,e,sz,h1,-⟩:=h
  have hj:=(List.getElem?_eq_some_iff.1 hc).1
  have h2:(bcells s++junk)[j]? = some (.int .u8 c.toNat):=by
    rw [List.getElem?_append_left (by rw [bcells_len];exact hj)]
    exact bcells_at hc
  simp [World.cell?,h1,h2]
theorem Bt.bs {w:World} {b:Nat} {s:Key} (h:Bt w b s) (k:Nat):Bs w (some ⟨b,0,none⟩) (s.take k):=by
  refine ⟨by rw [bcells_len,Nat.mul_one],fun _=>rfl,fun j v hj=>?_⟩
  show w.cell? ⟨b,0 + j,none⟩ = some v
  rw [Nat.zero_add]
  unfold bcells at hj
  rw [List.getElem?_map,Option.map_eq_some_iff] at hj
  obtain ⟨c,hc,rfl⟩:=hj
  rw [List.getElem?_take] at hc
  split at hc
  · exact h.at_ hc
  cases hc
section
variable {nz:Sz} {l:List (Nat × Value)} {a:Act} {o:Oper} {t t' e:TypeId} {x y:Operand} {s:Key} {w:World}
end
theorem printL_ok {l:List Ep} (h:(printL l).2 = 0):fault l = 0∧(printL l).1 = textT l:=by
  unfold printL at h ⊢
  split
  · rename_i h1
    exact ⟨h1,rfl⟩
  rename_i h1
  rw [if_neg h1] at h
  exact absurd h h1
theorem map_nil {l:List En} {s:Key} (h:l.map En.p = (parseT s).1) (hb:(parseT s).2 ≠ 0):l = []:=List.map_eq_nil_iff.1 (h.trans (parse_bad hb))
noncomputable def lastT (s:Key):Stp × Int:=if (parseT s).2 = 0 then (match (parseT s).1.getLast? with
  | some e=>(e.s,0)
  | none=>(sz0,0)) else (sz0,(parseT s).2)
def above (l:List Ep) (q:Stp):List Ep:=l.dropWhile fun e=>decide (cmpS e.s q≤0)
noncomputable def sinceT (s:Key) (q:Stp):Key × Int:=if (parseT s).2 = 0 then printL (above (parseT s).1 q) else ([],(parseT s).2)
theorem prp_good {l:List Ep} (h:Good l):∀ p ∈ l,PrP p:=fun p hp=>by
  obtain ⟨i,hi⟩:=List.mem_iff_getElem?.1 hp
  obtain ⟨a1,a2,-,a4,a5,a6⟩:=okE_iff.1 (good_at h.ok hi).1
  obtain ⟨⟨b1,b2⟩,b3⟩:=h.num p hp
  refine ⟨by omega,?_,⟨?_,b1,b2⟩,fun y hy=>?_⟩
  · unfold mayS at a2
    have a2:=of_decide_eq_true a2
    unfold inS inInt
    omega
  · unfold mayT at a1
    have a1:=of_decide_eq_true a1
    unfold inInt
    omega
  have h1:=keys_mem a4 hy
  have h2:=a6 y hy
  unfold keyB at h1
  simp only [Bool.and_eq_true,decide_eq_true_eq] at h1
  refine ⟨b3 y hy,by omega,?_⟩
  rcases mayV_iff.1 h2 with ⟨-,-,h4⟩ | ⟨-,h4,-⟩ | ⟨-,-,h4⟩
  · rw [h4];simp
  · rw [h4];simp
  omega
theorem parse_body (s:Key):(bodyT (parseT s).1).length≤s.length:=by
  by_cases h:(parseT s).2 = 0
  · obtain ⟨l,-,e,hp⟩:=parse_ok h
    have:=(text_split l).1
    rw [hp]
    show (bodyT l).length≤_
    rw [← e]
    omega
  rw [parse_bad h]
  exact Nat.zero_le _
theorem body_app (l m:List Ep):bodyT (l++m) = bodyT l++bodyT m:=by unfold bodyT linesL;rw [List.flatMap_append,List.flatMap_append]
theorem takeW {α:Type} {f:α→Bool}:∀ {l:List α} {x:α},x ∈ l.takeWhile f→f x = true
  | [],x,h=>by cases h
  | y :: l,x,h=>by
    rw [List.takeWhile_cons] at h
    split at h
    · rename_i hy
      rcases List.mem_cons.1 h with rfl | h
      · exact hy
      exact takeW h
    cases h
theorem above_app (l:List Ep) (q:Stp):∃ m,l = m++above l q∧∀ e ∈ m,cmpS e.s q≤0:=⟨l.takeWhile fun e=>decide (cmpS e.s q≤0),(List.takeWhile_append_dropWhile).symm,fun e he=>by simpa using takeW he⟩
theorem above_stop {l:List Ep} {q:Stp} {j:Nat} (h:∀ i e,i < j→l[i]? = some e→cmpS e.s q≤0) (hj:∀ e,l[j]? = some e→¬ cmpS e.s q≤0):above l q = l.drop j:=by
  unfold above
  induction l generalizing j with
  | nil=>simp
  | cons e l ih=>
    cases j with
    | zero=>
      have:=hj e rfl
      rw [List.dropWhile_cons_of_neg (by simpa using this)]
      rfl
    | succ j=>
      have:=h 0 e (by omega) rfl
      rw [List.dropWhile_cons_of_pos (by simpa using this),List.drop_succ_cons]
      exact ih (fun i x hi hx=>h (i + 1) x (by omega) (by simpa using hx)) (fun x hx=>hj x (by simpa using hx))
theorem flat_cutE {l:List En} {p:Nat} (hp:p≤l.length):((l.flatMap En.cells).drop (p * 7)).take ((l.length - p) * 7) = (l.drop p).flatMap En.cells:=by
  rw [flat_drop En.len,List.take_of_length_le (by rw [Sx.flat_len En.len,List.length_drop];exact Nat.le_refl _)]
theorem e_cut {w:World} {ad:Option Addr} {c:Nat} {L:List En} {k:Nat} (h:Ss w ad En.cells 7 L∧L.length≤c) (hk:k≤L.length) :
    Ss w (cutAt ad 7 k c) En.cells 7 (L.drop k)∧(L.drop k).length≤c - k:=by
  have h1:=Sv.cut (lo:=k) (hi:=L.length) (c:=c) h.1 hk (Nat.le_refl _) h.2
  rw [flat_cutE hk,show L.length - k = (L.drop k).length from List.length_drop.symm] at h1
  exact ⟨h1,by rw [List.length_drop];have:=h.2;omega⟩
theorem Last_calls (s:List UInt8) (hs:s.length≤1000000) (hnl:NL 30000 s) {w:World} (hE:Env2 w):Calls Tryz.prog 18 #[.string ⟨s.toArray⟩] w fun e w'=>e = .returned (.tuple #[Value.agg #[.int .i64 (lastT s).1.w,.int .i64 (lastT s).1.l,.int .i64 (lastT s).1.n],.int .i64 (lastT s).2])∧Ext No w w':=by
  have RE:Ro w No Env2:=Ro.of fun w' x=>Env2.ext hE x;refine calls_into func18 rfl ntmps18 rfl fun _ T=> ?_;replace T:=T.keep [0] rfl;have H:Sx.Hp w (Sx.No) w []:=Sx.Hp.start _ _;refine sj (zz 0 [uu,tt]) rfl fun _ Q1=>?_;refine st_eff T rfl rfl rfl rfl (y_alloc T rfl ti28 rfl _) ?_;clear T;rintro _ w1 ⟨b1,rfl,N⟩ a T;replace H:=H.new N;clear N;refine asn T rfl fun _ T=> ?_;revert Q1 T;refine rg [3,2,0] (zz 0 [tt,uu,tt,tt,tt,tt,tt]) rfl fun _ Q2 T=>?_;refine mv T rfl fun _ T=> ?_;refine st_call T rfl rfl rfl rfl rfl can14 rfl (LParse_calls s hs hnl (RE.at H.ext)) ?_;rintro _ w2 ⟨ad1,c1,l1,rfl,hm1,hl1,hw1,K⟩;refine ⟨_,rfl,?_⟩;clear T;intro a T;replace H:=H.more K rfl;clear K;refine mv T rfl fun _ T=> xt T rfl fun _ T=> xt T rfl fun _ T=> asn T rfl fun _ T=> asn T rfl fun _ T=> ?_;revert Q2 T
  refine rq [5,4,3,2,0] rfl fun _ Q3 T=>?_;refine sj (zz 0 [tt,tt,tt,tt,tt,tt,tt]) rfl fun _ Q4=>?_;refine mv T rfl fun _ T=> tne T rfl fun _ T=> mv T rfl fun _ T=> ?_;refine Sl.two T 13 rfl (fun hc5 T=>?_) (fun hc5 T=>?_)
  · try simp only [bq] at hc5
    have hne9:¬ (parseT s).2 = 0:=hc5;refine sk T rfl fun _ T=> sk T rfl fun _ T=> sk T rfl fun _ T=> pt T rfl fun _ T=> ?_;replace T:=T.keep [17,5,4,3,2,0] rfl;refine ser_nil ?_;refine then_normal (Q4 _ _ ?_);clear Q4;refine wp_if T rfl (fun _=>?_) (fun h=>by cases h);refine sj (zz 0 [tt,tt,uu,tt]) rfl fun _ Q6=>?_;refine bd T bld28 rfl fun _ T=> mv T rfl fun _ T=> ?_;refine stS 2 T H ti28 rfl rfl fun w3 H=>?_;refine asn T rfl fun _ T=> ?_;revert Q6 T;refine rp [3,17,5,4,2,0] rfl fun T=>?_;refine wp_ret <| then_ret ?_;refine dc2 (k:=3) Tryz.f18 T underlying28 ti28 (H.blk 2 rfl) rfl rfl ?_;unfold lastT;rw [if_neg (fun h9=>hne9 h9)];exact ⟨rfl,H.ext⟩
  try simp only [bq] at hc5
  have hz9:(parseT s).2 = 0:=hc5;refine mv T rfl fun _ T=> tln T underlying22 rfl fun _ T=> teq T rfl fun _ T=> pf T rfl fun _ T=> ?_;revert Q4 T;refine rif [17,5,4,3,2,0] rfl (fun T hc7=>?_) (fun T hc7=>?_)
  · try simp only [bq] at hc7
    refine sj (zz 0 [tt,tt,uu,tt]) rfl fun _ Q8=>?_;refine bd T bld28 rfl fun _ T=> mv T rfl fun _ T=> ?_;refine stS 2 T H ti28 rfl rfl fun w4 H=>?_;refine asn T rfl fun _ T=> ?_;revert Q8 T;refine rp [3,17,5,4,2,0] rfl fun T=>?_;refine wp_ret <| then_ret ?_;refine dc2 (k:=3) Tryz.f18 T underlying28 ti28 (H.blk 2 rfl) rfl rfl ?_;unfold lastT;rw [if_pos hz9,← hm1,show l1 = [] from List.eq_nil_of_length_eq_zero (by omega)];rw [hz9];exact ⟨rfl,H.ext⟩
  try simp only [bq] at hc7
  obtain ⟨g,hg⟩:∃ q9,l1[l1.length - 1]? = some q9:=⟨_,List.getElem?_eq_getElem (by omega)⟩;refine wp_skip ?_;revert Q3;refine nx fun _ Q9=>?_;refine wp_text (zz 0 [tt,tt,tt,tt,tt,tt,uu,uu,tt]) rfl ?_;refine mv T rfl fun _ T=> mv T rfl fun _ T=> tln T underlying22 rfl fun _ T=> tsb T rfl (by omega) fun _ T=> ?_;refine tk T rfl (x_index (k:=l1.length - 1) T rfl underlying22 ti31 (H.row 0 rfl).sv rfl rfl (by omega) (by omega)) fun _ T=> fad T fa31_1 rfl fun _ T=> ?_;refine rn T rfl (y_loadS T rfl underlying28 ti28 rfl (((((H.row 0 rfl).ssn rfl).cs En.len hg).seg (i:=3) (k:=3) rfl)) (by rfl)) fun _ T=> ?_;refine stS 2 T H ti28 rfl rfl fun w5 H=>?_;refine asn T rfl fun _ T=> ?_;revert Q9 T;refine rp [3,17,5,4,2,0] rfl fun T=>?_;refine wp_ret ?_;refine dc2 (k:=3) Tryz.f18 T underlying28 ti28 (H.blk 2 rfl) rfl rfl ?_;unfold lastT;rw [if_pos hz9,← hm1,last_map hg];exact ⟨rfl,H.ext⟩
theorem Since_calls (s:List UInt8) (hs:s.length≤1000000) (hnl:NL 30000 s) (q:Stp) {w:World} (hE:Env2 w):Calls Tryz.prog 20 #[.string ⟨s.toArray⟩,.agg #[.int .i64 q.w,.int .i64 q.l,.int .i64 q.n]] w fun e w'=>e = .returned (.tuple #[.string ⟨(sinceT s q).1.toArray⟩,.int .i64 (sinceT s q).2])∧Ext No w w':=by
  have RE:Ro w No Env2:=Ro.of fun w' x=>Env2.ext hE x;refine calls_into func20 rfl ntmps20 rfl fun _ T=> ?_;replace T:=T.keep [0,1] rfl;have H:Sx.Hp w (Sx.No) w []:=Sx.Hp.start _ _;refine sj (zz 0 [uu,tt,tt]) rfl fun _ Q1=>?_;refine st_eff T rfl rfl rfl rfl (y_box T rfl rfl rfl _) ?_;clear T;rintro _ w1 ⟨b1,rfl,N⟩ a T;replace H:=H.new N;clear N;refine asn T rfl fun _ T=> asn T rfl fun _ T=> ?_;revert Q1 T;refine rg [5,4,3,0,1] (zz 0 [tt,uu,tt,tt,tt,tt,tt]) rfl fun _ Q2 T=>?_;refine mv T rfl fun _ T=> ?_;refine st_call T rfl rfl rfl rfl rfl can14 rfl (LParse_calls s hs hnl (RE.at H.ext)) ?_;rintro _ w2 ⟨ad1,c1,l1,rfl,hm1,hl1,hw1,K⟩;refine ⟨_,rfl,?_⟩;clear T;intro a T;replace H:=H.more K rfl;clear K;refine mv T rfl fun _ T=> xt T rfl fun _ T=> xt T rfl fun _ T=> asn T rfl fun _ T=> ?_
  refine asn T rfl fun _ T=> ?_;revert Q2 T;refine rq [7,6,5,4,3,0,1] rfl fun _ Q3 T=>?_;refine sj (zz 0 [tt,tt]) rfl fun _ Q4=>?_;refine mv T rfl fun _ T=> tne T rfl fun _ T=> ?_;revert Q4 T;refine rif [14,7,6,5,4,3,0,1] rfl (fun T hc5=>?_) (fun T hc5=>?_)
  · try simp only [bq] at hc5
    have hne9:¬ (parseT s).2 = 0:=hc5;refine sj (zz 0 [tt,tt,tt]) rfl fun _ Q6=>?_;refine mv T rfl fun _ T=> asn T rfl fun _ T=> asn T rfl fun _ T=> ?_;revert Q6 T;refine rp [5,4,14,7,6,3,0,1] rfl fun T=>?_;refine wp_ret <| then_ret ?_;refine dn2 Tryz.f20 T rfl ?_;unfold sinceT;rw [if_neg (fun h9=>hne9 h9)];exact ⟨rfl,H.ext⟩
  try simp only [bq] at hc5
  have hz9:(parseT s).2 = 0:=hc5;refine wp_skip ?_;revert Q3;refine nx fun _ Q7=>?_;refine wp_block ?_;replace H:=H.turn (q:=fun u=>Ss u ad1 En.cells 7 l1∧l1.length≤c1) 0 rfl (fun u hu=>⟨hu.ssn rfl,hu.le.1⟩) rfl;rw [show l1 = l1.drop 0 from rfl] at H T;refine wp_loopH (G:=Nat × Option Addr × Nat) (fun ⟨j,ad2,c2⟩=>[(6,.slice ad2 (l1.drop j).length c2)]) (fun ⟨j,ad2,c2⟩=>[(Own ad1,fun u=>Ss u ad2 En.cells 7 (l1.drop j)∧(l1.drop j).length≤c2)]) (fun ⟨j,ad2,c2⟩=>j≤l1.length∧∀ i e,i < j→(parseT s).1[i]? = some e→cmpS e.s q≤0) (fun ⟨j,ad2,c2⟩=>l1.length - j) (0,ad1,c1) (T.keep [6,14,7,5,4,3,0,1] rfl) (H.keep [0,1,2] rfl rfl) (⟨Nat.zero_le _,fun i e h=>absurd h (Nat.not_lt_zero _)⟩) ?_;clear T H;rintro ⟨j,ad2,c2⟩ a w3 hJ T H;replace T:=T.keep [6,14,7,5,4,3,0,1] rfl;replace H:=H.keep [0,1,2] rfl rfl;obtain ⟨hj,hup⟩:=hJ;refine wp_seq_k fun _ Q8=>?_;refine wp_seq_k fun _ Q9=>?_;revert H;refine drw (Sx.No) [(0,.take),(1,.take),(2,.take),(3,.take),(4,.take),(5,.take),(6,.take),(7,.held),(8,.held),(9,.run),(10,.take),(11,.take)] (by kernel_rfl) (by kernel_rfl) fun u H hH=>?_;have Hu:=H;refine mv T rfl fun _ T=> tln T underlying22 rfl ?_
  clear T;intro a T;refine tgt T rfl fun _ T=> mv T rfl fun _ T=> ?_;refine Sl.two T 19 rfl (fun hc10 T=>?_) (fun hc10 T=>?_)
  · try simp only [bq] at hc10
    have hjl:j < l1.length:=by have h9:=hc10;rw [List.length_drop] at h9;omega
    obtain ⟨o,ho⟩:∃ q9,l1[j]? = some q9:=⟨_,List.getElem?_eq_getElem (by omega)⟩;refine mv T rfl fun _ T=> ?_;refine tk T rfl (x_index (k:=0) T rfl underlying22 ti31 ((H.at 0 rfl).1.sv) rfl rfl rfl (by rw [List.length_drop];omega)) fun _ T=> fad T fa31_1 rfl fun _ T=> ?_;refine hed T rfl hH (fun w' h'=>y_loadS T rfl underlying28 ti28 rfl ((((Hu.held 0 rfl h' off_No).1.cs (i:=0) En.len (show (l1.drop j)[0]? = some o from by rw [List.getElem?_drop,Nat.add_zero];exact ho)).seg (i:=3) (k:=3) rfl)) (by rfl)) fun _ T=> ?_;refine hed T rfl hH (fun w' h'=>y_loadS T rfl underlying28 ti28 rfl ((Hu.heldB 2 rfl h' off_No).seg (k:=3) rfl) (by rfl)) fun _ T=> ?_;refine cal T H can25 rfl (Compare_calls o.s q _) fun w4 H _ T=> tle T rfl fun _ T=> pt T rfl fun _ T=> ?_;replace T:=T.keep [27,6,14,7,5,4,3,0,1] rfl;clear Hu hH;refine ser_calm ?_;refine then_normal (Q9 _ _ ?_);clear Q9;refine wp_if T rfl (fun hc11=>?_) (fun hc11=>?_)
    · try simp only [bq] at hc11
      have hle9:cmpS o.s q≤0:=hc11;refine wp_skip ?_;refine then_normal (Q8 _ _ ?_);clear Q8;refine wp_block ?_;refine wp_text (zz 0 [tt,tt,tt]) rfl ?_;refine mv T rfl fun _ T=> ?_;refine tk T rfl (x_slice_l (p:=1) T rfl underlying22 ti31 rfl rfl rfl (by rw [List.length_drop];omega)) fun _ T=> asn T rfl fun _ T=> ?_;replace T:=T.keep [6,27,14,7,5,4,3,0,1] rfl;refine ser_nil ?_;refine block_normal ?_;refine then_normal ?_;replace H:=H.turn (q:=fun u=>Ss u (cutAt ad2 7 1 c2) En.cells 7 (l1.drop (j + 1))∧(l1.drop (j + 1)).length≤c2 - 1) 0 rfl (fun u hu=>by
        have h8:=e_cut (k:=1) hu (by rw [List.length_drop];omega);rw [List.drop_drop] at h8;exact h8) rfl
      exact ⟨(j + 1,cutAt ad2 7 1 c2,c2 - 1),⟨by show j + 1≤_;omega,fun i e hi he=>by
            rcases Nat.lt_or_ge i j with h8 | h8
            · exact hup i e h8 he
            obtain rfl:i = j:=(by have:i < j + 1:=hi;omega)
            rw [← hm1,List.getElem?_map,ho] at he;cases he
            exact hle9⟩,((T.keep [6,14,7,5,4,3,0,1] rfl).conv (by rw [show (l1.drop j).length - 1 = (l1.drop (j + 1)).length from by rw [List.length_drop,List.length_drop];omega];rfl)),(H.keep [0,1,2] rfl rfl),by show _ - (j + 1) < _ - j;omega⟩
    try simp only [bq] at hc11
    have hab:above (parseT s).1 q = (l1.drop j).map En.p:=by
      rw [List.map_drop,hm1];refine above_stop (fun i e hi he=>?_) (fun e he=>?_)
      · exact hup i e hi he
      rw [← hm1,List.getElem?_map,ho] at he;cases he;show ¬ cmpS o.s q≤0;omega
    refine wp_exit <| then_exit ?_;refine then_exit <| block_exit ?_;revert Q7;refine nx fun _ Q12=>?_;refine wp_text (zz 0 [tt,uu,tt,tt,tt,tt]) rfl ?_;refine mv T rfl fun _ T=> ?_;refine cal T H can11 rfl (PrintL_calls (l1.drop j) (H.at 0 rfl).1 (fun x hx=>prE_of (fam_ss (H.fam 1 rfl) (List.mem_of_mem_drop hx)) (prp_good (parseT_good s) x.p (by rw [← hm1];exact List.mem_map_of_mem (List.mem_of_mem_drop hx)))) (by rw [List.length_drop];omega) (by rw [← hab];have h7:=parse_body s;obtain ⟨m7,h6,-⟩:=above_app (parseT s).1 q;rw [h6,body_app,List.length_append] at h7;omega) (RE.at H.ext).e) fun w5 H _ T=> ?_;rw [← hab] at T;refine xt T rfl fun _ T=> xt T rfl fun _ T=> asn T rfl fun _ T=> asn T rfl fun _ T=> ?_;revert Q12 T;refine rp [5,4,27,6,14,7,3,0,1] rfl fun T=>?_;refine wp_ret ?_;refine dn2 Tryz.f20 T rfl ?_
    unfold sinceT;rw [if_pos hz9];exact ⟨rfl,H.ext⟩
  try simp only [bq] at hc10
  have hjl:l1.length≤j:=by have h9:=hc10;rw [List.length_drop] at h9;omega
  refine sk T rfl fun _ T=> sk T rfl fun _ T=> sk T rfl fun _ T=> ?_;refine st_heldskip T rfl rfl rfl rfl hH fun _ T=> ?_;refine st_heldskip T rfl rfl rfl rfl hH fun _ T=> ?_;refine st_runskip T rfl rfl rfl rfl fun _ T=> sk T rfl fun _ T=> pf T rfl fun _ T=> ?_;replace T:=T.keep [27,6,14,7,5,4,3,0,1] rfl;clear Hu hH;refine ser_calm ?_;refine then_normal (Q9 _ _ ?_);clear Q9;refine wp_if T rfl (fun h=>by cases h) (fun _=>?_);have hab:above (parseT s).1 q = (l1.drop j).map En.p:=by
    rw [List.map_drop,hm1];refine above_stop (fun i e hi he=>?_) (fun e he=>?_)
    · exact hup i e hi he
    rw [← hm1,List.getElem?_map,List.getElem?_eq_none hjl] at he;cases he
  refine wp_exit <| then_exit ?_;refine then_exit <| block_exit ?_;revert Q7;refine nx fun _ Q13=>?_;refine wp_text (zz 0 [tt,uu,tt,tt,tt,tt]) rfl ?_;refine mv T rfl fun _ T=> ?_;refine cal T H can11 rfl (PrintL_calls (l1.drop j) (H.at 0 rfl).1 (fun x hx=>prE_of (fam_ss (H.fam 1 rfl) (List.mem_of_mem_drop hx)) (prp_good (parseT_good s) x.p (by rw [← hm1];exact List.mem_map_of_mem (List.mem_of_mem_drop hx)))) (by rw [List.length_drop];omega) (by rw [← hab];have h7:=parse_body s;obtain ⟨m7,h6,-⟩:=above_app (parseT s).1 q;rw [h6,body_app,List.length_append] at h7;omega) (RE.at H.ext).e) fun w6 H _ T=> ?_;rw [← hab] at T;refine xt T rfl fun _ T=> xt T rfl fun _ T=> asn T rfl fun _ T=> asn T rfl fun _ T=> ?_;revert Q13 T;refine rp [5,4,27,6,14,7,3,0,1] rfl fun T=>?_;refine wp_ret ?_;refine dn2 Tryz.f20 T rfl ?_
  unfold sinceT;rw [if_pos hz9];exact ⟨rfl,H.ext⟩
end Go.Proofs.YtonnladboikmhaaGreatDoor
