/- Walks: LinesBack. -/
import Derived.Test.YtonnladboikmhaaGreatDoorW13
set_option linter.unusedSimpArgs false
set_option linter.unusedVariables false
namespace Go.Proofs.YtonnladboikmhaaGreatDoor
namespace Tryz
end Tryz
open Go.Proofs.Tryz Go.Proofs.YtonnladboikmhaaGreatDoor.Tryz
open Sx
theorem Tryz.can15:Sx.Can Tryz.prog 15:=⟨_,func15,by kernel_rfl,rfl⟩
/-! a text that is read without fault is a printed one -/
theorem parseB_ok {b:Key} (h:(parseB b).2 = 0):∃ l,Good l∧bodyT l = b:=by
  unfold parseB at h
  split at h
  · rename_i h1;exact h1
  cases h
theorem parse_ok {s:Key} (h:(parseT s).2 = 0):∃ l,Good l∧textT l = s∧parseT s = (l,0):=by
  have h9:=h
  unfold parseT at h9
  split at h9
  · rename_i ht
    split at h9
    · rename_i hs
      obtain ⟨l,hl,hb⟩:=parseB_ok h9
      obtain ⟨n,hn⟩:∃ n,s.length = n + 11:=⟨s.length - 11,by have:=tail_len ht;omega⟩
      obtain ⟨ha,hd⟩:=ahead_at hn
      obtain ⟨-,-,-,h10⟩:=(tail_iff hn).1 ht
      have e:textT l = s:=by
        unfold textT
        rw [hb,← hs,hd,ha]
        obtain ⟨hi,hv⟩:=List.getElem?_eq_some_iff.1 h10
        have e1:s = s.take (n + 10)++[10]:=by
          conv=>lhs;rw [← List.take_append_drop (n + 10) s,List.drop_eq_getElem_cons hi,hv,List.drop_eq_nil_of_le (by omega)]
        have e2:s.take (n + 10) = s.take n++(s.take (n + 10)).drop n:=by
          conv=>lhs;rw [← List.take_append_drop n (s.take (n + 10)),List.take_take,Nat.min_eq_left (by omega)]
        rw [← List.append_assoc,← e2,← e1]
      exact ⟨l,hl,e,by rw [← e];exact parseT_text hl⟩
    cases h9
  cases h9
theorem parse_bad {s:Key} (h:(parseT s).2 ≠ 0):(parseT s).1 = []:=by
  unfold parseT at h ⊢
  split
  · split
    · rename_i h1 h2
      rw [if_pos h1,if_pos h2] at h
      unfold parseB at h ⊢
      split
      · rename_i h3
        rw [dif_pos h3] at h
        exact absurd rfl h
      rfl
    rfl
  rfl
theorem text_split (l:List Ep):(textT l).length = (bodyT l).length + 11∧(textT l).take (bodyT l).length = bodyT l∧(textT l).drop (bodyT l).length = sumT (bodyT l)++[10]:=by
  unfold textT
  refine ⟨?_,List.take_left ..,List.drop_left ..⟩
  unfold sumT
  simp [hex8_len]
/-! printed texts are short, their lines too -/
/-! a text turned into bytes of one's own: a mark lies behind its last cell -/
def Bt (w:World) (b:Nat) (s:Key):Prop:=∃ (junk:List Value) (e:TypeId) (sz:Nat),w.heap[b]? = some (.cells (bcells s++junk).toArray e (sz,sz + 1))∧sz = (bcells s++junk).length
theorem Bt.ext {w w':World} {b:Nat} {s:Key} {S:Nat→Prop} (h:Bt w b s) (x:Ext S w w') (hb:¬ S b):Bt w' b s:=by
  obtain ⟨junk,e,sz,h1,h2⟩:=h
  exact ⟨junk,e,sz,(x.block b (Array.getElem?_eq_some_iff.1 h1).1 hb).trans h1,h2⟩
theorem Bt.lt {w:World} {b:Nat} {s:Key} (h:Bt w b s):b < w.heap.size:=by
  obtain ⟨junk,e,sz,h1,-⟩:=h
  exact (Array.getElem?_eq_some_iff.1 h1).1
theorem bcells_at {s:Key} {j:Nat} {c:UInt8} (h:s[j]? = some c):(bcells s)[j]? = some (.int .u8 c.toNat):=by
  unfold bcells
  rw [List.getElem?_map,h]
  rfl
theorem bcells_len (s:Key):(bcells s).length = s.length:=by unfold bcells;simp
theorem Bt.at_ {w:World} {b:Nat} {s:Key} (h:Bt w b s) {j:Nat} {c:UInt8} (hc:s[j]? = some c):w.cell? ⟨b,j,none⟩ = some (.int .u8 c.toNat):=by
  obtain ⟨junk,e,sz,h1,-⟩:=h
  have hj:=(List.getElem?_eq_some_iff.1 hc).1
  have h2:(bcells s++junk)[j]? = some (.int .u8 c.toNat):=by
    rw [List.getElem?_append_left (by rw [bcells_len];exact hj)]
    exact bcells_at hc
  simp [World.cell?,h1,h2]
theorem Bt.bs {w:World} {b:Nat} {s:Key} (h:Bt w b s) (k:Nat):Bs w (some ⟨b,0,none⟩) (s.take k):=by
  refine ⟨by rw [bcells_len,Nat.mul_one],fun _=>rfl,fun j v hj=>?_⟩
  show w.cell? ⟨b,0 + j,none⟩ = some v
  rw [Nat.zero_add]
  unfold bcells at hj
  rw [List.getElem?_map,Option.map_eq_some_iff] at hj
  obtain ⟨c,hc,rfl⟩:=hj
  rw [List.getElem?_take] at hc
  split at hc
  · exact h.at_ hc
  cases hc
section
variable {nz:Sz} {l:List (Nat × Value)} {a:Act} {o:Oper} {t t' e:TypeId} {x y:Operand} {s:Key} {w:World}
end
theorem printL_ok {l:List Ep} (h:(printL l).2 = 0):fault l = 0∧(printL l).1 = textT l:=by
  unfold printL at h ⊢
  split
  · rename_i h1
    exact ⟨h1,rfl⟩
  rename_i h1
  rw [if_neg h1] at h
  exact absurd h h1
theorem map_nil {l:List En} {s:Key} (h:l.map En.p = (parseT s).1) (hb:(parseT s).2 ≠ 0):l = []:=List.map_eq_nil_iff.1 (h.trans (parse_bad hb))
noncomputable def joinT (x y:Key):Key × Int:=if (parseT x).2 = 0 then (if (parseT y).2 = 0 then printL ((parseT x).1++(parseT y).1) else ([],(parseT y).2)) else ([],(parseT x).2)
def above (l:List Ep) (q:Stp):List Ep:=l.dropWhile fun e=>decide (cmpS e.s q≤0)
theorem prp_good {l:List Ep} (h:Good l):∀ p ∈ l,PrP p:=fun p hp=>by
  obtain ⟨i,hi⟩:=List.mem_iff_getElem?.1 hp
  obtain ⟨a1,a2,-,a4,a5,a6⟩:=okE_iff.1 (good_at h.ok hi).1
  obtain ⟨⟨b1,b2⟩,b3⟩:=h.num p hp
  refine ⟨by omega,?_,⟨?_,b1,b2⟩,fun y hy=>?_⟩
  · unfold mayS at a2
    have a2:=of_decide_eq_true a2
    unfold inS inInt
    omega
  · unfold mayT at a1
    have a1:=of_decide_eq_true a1
    unfold inInt
    omega
  have h1:=keys_mem a4 hy
  have h2:=a6 y hy
  unfold keyB at h1
  simp only [Bool.and_eq_true,decide_eq_true_eq] at h1
  refine ⟨b3 y hy,by omega,?_⟩
  rcases mayV_iff.1 h2 with ⟨-,-,h4⟩ | ⟨-,h4,-⟩ | ⟨-,-,h4⟩
  · rw [h4];simp
  · rw [h4];simp
  omega
theorem parse_body (s:Key):(bodyT (parseT s).1).length≤s.length:=by
  by_cases h:(parseT s).2 = 0
  · obtain ⟨l,-,e,hp⟩:=parse_ok h
    have:=(text_split l).1
    rw [hp]
    show (bodyT l).length≤_
    rw [← e]
    omega
  rw [parse_bad h]
  exact Nat.zero_le _
theorem body_app (l m:List Ep):bodyT (l++m) = bodyT l++bodyT m:=by unfold bodyT linesL;rw [List.flatMap_append,List.flatMap_append]
theorem body_cnt:∀ l:List Ep,2 * l.length≤(bodyT l).length
  | []=>Nat.le_refl _
  | e :: l=>by
    have ih:=body_cnt l
    have h1:bodyT (e :: l) = bodyT [e]++bodyT l:=body_app [e] l
    have h2:2≤(bodyT [e]).length:=by
      have h3:bodyT [e] = lin (hdT e.t e.s e.ws.length)++(e.ws.map wrT).flatMap lin:=by simp [bodyT,linesL,linesE]
      rw [h3,List.length_append]
      have:2≤(lin (hdT e.t e.s e.ws.length)).length:=by simp [lin,hdT]
      omega
    rw [h1,List.length_append,List.length_cons]
    omega
theorem Join_calls (x y:List UInt8) (hx:x.length≤1000000) (hxnl:NL 30000 x) (hy:y.length≤1000000) (hynl:NL 30000 y) {w:World} (hE:Env2 w):Calls Tryz.prog 15 #[.string ⟨x.toArray⟩,.string ⟨y.toArray⟩] w fun e w'=>e = .returned (.tuple #[.string ⟨(joinT x y).1.toArray⟩,.int .i64 (joinT x y).2])∧Ext No w w':=by
  have RE:Ro w No Env2:=Ro.of fun w' x=>Env2.ext hE x;refine calls_into func15 rfl ntmps15 rfl fun _ T=> ?_;replace T:=T.keep [0,1] rfl;have H:Sx.Hp w (Sx.No) w []:=Sx.Hp.start _ _;refine sj (zz 0 [tt,tt]) rfl fun _ Q1=>?_;refine asn T rfl fun _ T=> asn T rfl fun _ T=> ?_;revert Q1 T;refine rg [5,4,0,1] (zz 0 [tt,uu,tt,tt,tt,tt,tt]) rfl fun _ Q2 T=>?_;refine mv T rfl fun _ T=> ?_;refine st_call T rfl rfl rfl rfl rfl can14 rfl (LParse_calls x hx hxnl (RE.at H.ext)) ?_;rintro _ w1 ⟨ad1,c1,l1,rfl,hm1,hl1,hw1,K⟩;refine ⟨_,rfl,?_⟩;clear T;intro a T;replace H:=H.more K rfl;clear K;refine mv T rfl fun _ T=> xt T rfl fun _ T=> xt T rfl fun _ T=> asn T rfl fun _ T=> asn T rfl fun _ T=> ?_;revert Q2 T;refine rq [7,6,5,4,0,1] rfl fun _ Q3 T=>?_;refine sj (zz 0 [tt,tt]) rfl fun _ Q4=>?_;refine mv T rfl fun _ T=> tne T rfl fun _ T=> ?_;revert Q4 T;refine rif [15,7,6,5,4,0,1] rfl (fun T hc5=>?_) (fun T hc5=>?_)
  · try simp only [bq] at hc5
    have hne9:¬ (parseT x).2 = 0:=hc5;refine sj (zz 0 [tt,tt,tt]) rfl fun _ Q6=>?_;refine mv T rfl fun _ T=> asn T rfl fun _ T=> asn T rfl fun _ T=> ?_;revert Q6 T;refine rp [5,4,15,7,6,0,1] rfl fun T=>?_;refine wp_ret <| then_ret ?_;refine dn2 Tryz.f15 T rfl ?_;unfold joinT;rw [if_neg (fun h9=>hne9 h9)];exact ⟨rfl,H.ext⟩
  try simp only [bq] at hc5
  have hz1:(parseT x).2 = 0:=hc5;refine wp_skip ?_;revert Q3;refine nx fun _ Q7=>?_;refine wp_text (zz 0 [tt,uu,tt,tt,tt,tt,tt]) rfl ?_;refine mv T rfl fun _ T=> ?_;refine st_call T rfl rfl rfl rfl rfl can14 rfl (LParse_calls y hy hynl (RE.at H.ext)) ?_;rintro _ w2 ⟨ad2,c2,l2,rfl,hm2,hl2,hw2,K⟩;refine ⟨_,rfl,?_⟩;clear T;intro a T;replace H:=H.more K rfl;clear K;refine mv T rfl fun _ T=> xt T rfl fun _ T=> xt T rfl fun _ T=> asn T rfl fun _ T=> asn T rfl fun _ T=> ?_;revert Q7 T;refine rq [7,8,15,6,5,4,0,1] rfl fun _ Q8 T=>?_;refine sj (zz 0 [tt,tt]) rfl fun _ Q9=>?_;refine mv T rfl fun _ T=> tne T rfl fun _ T=> ?_;revert Q9 T;refine rif [23,7,8,15,6,5,4,0,1] rfl (fun T hc10=>?_) (fun T hc10=>?_)
  · try simp only [bq] at hc10
    have hne9:¬ (parseT y).2 = 0:=hc10;refine sj (zz 0 [tt,tt,tt]) rfl fun _ Q11=>?_;refine mv T rfl fun _ T=> asn T rfl fun _ T=> asn T rfl fun _ T=> ?_;revert Q11 T;refine rp [5,4,23,7,8,15,6,0,1] rfl fun T=>?_;refine wp_ret <| then_ret ?_;refine dn2 Tryz.f15 T rfl ?_;unfold joinT;rw [if_pos hz1,if_neg (fun h9=>hne9 h9)];exact ⟨rfl,H.ext⟩
  try simp only [bq] at hc10
  have hz2:(parseT y).2 = 0:=hc10;refine wp_skip ?_;revert Q8;refine nx fun _ Q12=>?_;refine wp_text (zz 0 [tt,tt,uu,uu,tt,tt,tt,tt]) rfl ?_;refine mv T rfl fun _ T=> mv T rfl fun _ T=> ?_;refine st_eff T rfl rfl rfl rfl (x_append T rfl rfl underlying22 ti31 rfl (by decide) rfl rfl (H.row 2 rfl) ((H.row 0 rfl).sv) (fun u hu=>flat_one En.one _ u hu) (rownil (H.row 0 rfl)) (by unfold maxLen;omega) (by omega)) ?_;rintro _ w3 ⟨ad3,c3,rfl,hr,E,hown,-⟩;clear T;intro a T;replace H:=H.setR 2 rfl hr E hown rfl;clear hr E hown;rw [← List.flatMap_append,show l1.length + l2.length = (l1++l2).length from List.length_append.symm] at H;rw [show l1.length + l2.length = (l1++l2).length from List.length_append.symm] at T;refine cal T H can11 rfl (PrintL_calls (l1++l2) ((H.row 2 rfl).ssn (by simp)) (fun q hq=>(List.mem_append.1 hq).elim (fun h9=>prE_of (fam_ss (H.fam 3 rfl) h9) (prp_good (parseT_good x) q.p (by rw [← hm1];exact List.mem_map_of_mem h9))) (fun h9=>prE_of (fam_ss (H.fam 1 rfl) h9) (prp_good (parseT_good y) q.p (by rw [← hm2];exact List.mem_map_of_mem h9)))) (by rw [List.length_append];have k1:=body_cnt (parseT x).1;have k2:=body_cnt (parseT y).1;have k3:=parse_body x;have k4:=parse_body y;rw [← hm1,List.length_map,hm1] at k1;rw [← hm2,List.length_map,hm2] at k2;omega) (by rw [List.map_append,hm1,hm2,body_app,List.length_append];have:=parse_body x;have:=parse_body y;omega) (RE.at H.ext).e) fun w4 H _ T=> ?_;rw [List.map_append,hm1,hm2] at T;refine xt T rfl fun _ T=> xt T rfl fun _ T=> asn T rfl fun _ T=> asn T rfl fun _ T=> ?_;revert Q12 T;refine rp [5,4,23,7,8,15,6,0,1] rfl fun T=>?_;refine wp_ret ?_;refine dn2 Tryz.f15 T rfl ?_;unfold joinT;rw [if_pos hz1,if_pos hz2];exact ⟨rfl,H.ext⟩
end Go.Proofs.YtonnladboikmhaaGreatDoor
