/- Walks: an entry's line. -/
import Derived.Test.YtonnladboikmhaaGreatDoorW7
set_option linter.unusedSimpArgs false
set_option linter.unusedVariables false
namespace Go.Proofs.YtonnladboikmhaaGreatDoor
namespace Tryz
end Tryz
open Go.Proofs.Tryz Go.Proofs.YtonnladboikmhaaGreatDoor.Tryz
open Sx
theorem Tryz.ti22:Sx.TI Tryz.prog 22 (.slice none 0 0) 1 24:=.mk' (by kernel_rfl)
theorem Tryz.fl22:Sx.Flat Tryz.prog 22:=⟨_,underlying22,trivial⟩
theorem Tryz.fl33:Sx.Flat Tryz.prog 33:=⟨_,underlying33,trivial⟩
theorem Tryz.fa73_0:Sx.FA Tryz.prog 73 0 0:=⟨_,_,_,_,_,underlying73,rfl,rfl,ti33,by decide⟩
theorem Tryz.fa76_0:Sx.FA Tryz.prog 76 0 0:=⟨_,_,_,_,_,underlying76,rfl,rfl,ti3,by decide⟩
theorem Tryz.fa76_1:Sx.FA Tryz.prog 76 1 1:=⟨_,_,_,_,_,underlying76,rfl,rfl,ti22,by decide⟩
theorem Tryz.bld26:Sx.Bld Tryz.prog 26 #[.int .i64 0,.int .i64 0,.int .i64 0] #[(0,1),(1,1),(2,1)]:=⟨_,_,_,_,ti26,rfl,underlying26,fun w=>by simp [Sx.placesOf,Sx.run_sizeOf ti3]⟩
theorem Tryz.bld31:Sx.Bld Tryz.prog 31 #[.int .i64 0,.int .i64 0,.int .i64 0,.int .i64 0,.int .i64 0,.int .i64 0,.slice none 0 0] #[(0,3),(3,3),(6,1)]:=⟨_,_,_,_,ti31,rfl,underlying31,fun w=>by simp [Sx.placesOf,Sx.run_sizeOf ti26,Sx.run_sizeOf ti28,Sx.run_sizeOf ti29]⟩
theorem Tryz.bld53:Sx.Bld Tryz.prog 53 #[.string .empty,.int .i64 0,.float .f64 0,.string .empty] #[(0,1),(1,3)]:=⟨_,_,_,_,ti53,rfl,underlying53,fun w=>by simp [Sx.placesOf,Sx.run_sizeOf ti51,Sx.run_sizeOf ti9]⟩
theorem Tryz.can37:Sx.Can Tryz.prog 37:=⟨_,func37,by kernel_rfl,rfl⟩
theorem Tryz.can40:Sx.Can Tryz.prog 40:=⟨_,func40,by kernel_rfl,rfl⟩
theorem Tryz.can41:Sx.Can Tryz.prog 41:=⟨_,func41,by kernel_rfl,rfl⟩
theorem Tryz.can70:Sx.Can Tryz.prog 70:=⟨_,func70,by kernel_rfl,rfl⟩
theorem Tryz.can74:Sx.Can Tryz.prog 74:=⟨_,func74,by kernel_rfl,rfl⟩
theorem last_map {o:List En} {g:En} (h:o[o.length - 1]? = some g):(o.map En.p).getLast? = some g.p:=by
  rw [List.getLast?_eq_getElem?,List.length_map,List.getElem?_map,h]
  rfl
theorem nextE_nil {o:List En} {s:Stp} (h:o.length = 0):nextE (o.map En.p) s:=by
  rw [List.eq_nil_of_length_eq_zero h]
  intro e he
  cases he
theorem nextE_iff {o:List En} {g:En} {s:Stp} (h:o[o.length - 1]? = some g):nextE (o.map En.p) s ↔ ltS g.s s:=by
  unfold nextE
  rw [last_map h]
  exact ⟨fun h=>h _ rfl,fun h e he=>by cases he;exact h⟩
set_option maxHeartbeats 1600000 in
theorem entry_calls {S:Nat→Prop} (rb:Nat) (k:Int) {ad:Option Addr} {c:Nat} {o:List En} (s:List UInt8) (hs:s.length≤30000) (ho:o.length≤2000000) {w:World} (H:Hp w S w [cB rb [.int .i64 k,.slice ad (o).length c] 76,cR 31 7 ad (o).length c ((o).flatMap En.cells),cF 53 4 En.rw (o)]) (RE:Ro w S Env2):Calls Tryz.prog 41 #[.pointer (some ⟨rb,0,none⟩),.string ⟨s.toArray⟩] w fun e w'=>(∃ ad' c' t x n,e = .returned (.tuple #[])∧rdE s = some (t,x,n)∧nextE (o.map En.p) x∧Hp w S w' [cB rb [.int .i64 n,.slice ad' (o++[(⟨t,x,none,0,[]⟩:En)]).length c'] 76,cR 31 7 ad' (o++[(⟨t,x,none,0,[]⟩:En)]).length c' ((o++[(⟨t,x,none,0,[]⟩:En)]).flatMap En.cells),cF 53 4 En.rw (o++[(⟨t,x,none,0,[]⟩:En)])])∨(e = stopE 4∧(rdE s = none∨∃ p,rdE s = some p∧¬ nextE (o.map En.p) p.2.1)∧Hp w S w' []):=by
  refine calls_into func41 rfl ntmps41 rfl fun _ T=> ?_;replace T:=T.keep [0,1] rfl;refine sj (zz 0 [tt,uu,tt]) rfl fun _ Q1=>?_;refine mv T rfl fun _ T=> ?_;refine st_call T rfl rfl rfl rfl rfl can74 rfl (Split_calls s 32 (by omega) _ (RE.at H.ext)) ?_;rintro _ w1 ⟨sb,rfl,K⟩;refine ⟨_,rfl,?_⟩;clear T;intro a T;replace H:=H.more K rfl;clear K;refine asn T rfl fun _ T=> ?_;revert Q1 T;refine rg [4,0,1] (zz 0 [tt,tt,tt,tt,tt,tt,uu,tt,tt,uu]) rfl fun _ Q2 T=>?_;refine mv T rfl fun _ T=> tln T underlying82 rfl fun _ T=> teq T rfl fun _ T=> mv T rfl fun _ T=> ?_;refine Sl.two T 15 rfl (fun hc3 T=>?_) (fun hc3 T=>?_)
  · try simp only [bq] at hc3
    obtain ⟨p0,p1,p2,p3,hsp⟩:∃ p0 p1 p2 p3,spl 32 s = [p0,p1,p2,p3]:=by
      match spl 32 s,(by omega:(spl 32 s).length = 4) with
      | [a,b,c,d],_=>exact ⟨a,b,c,d,rfl⟩
    have hl1:=spl_len 32 s p1 (by rw [hsp];simp);have hl2:=spl_len 32 s p2 (by rw [hsp];simp);have hl3:=spl_len 32 s p3 (by rw [hsp];simp);rw [hsp] at H T;refine mv T rfl fun _ T=> ?_;refine tk T rfl (x_index (k:=0) T rfl underlying82 ti9 (((H.at 0 rfl):Ss _ _ kc 1 _).sv) rfl rfl rfl (by first | omega | simp)) fun _ T=> ?_;refine rn T rfl (x_load1 T rfl fl9 rfl (((H.at 0 rfl):Ss _ _ kc 1 _).cell (i:=0) (j:=0) kc_len rfl rfl)) fun _ T=> tse T rfl fun _ T=> pt T rfl fun _ T=> ?_;refine st_callE T rfl rfl rfl rfl rfl can42 rfl (need_calls _ 4 _) ?_;rintro _ w2 (⟨hn9,rfl,E⟩ | ⟨hn9,rfl,E⟩)
    rotate_left
    · skip
      try simp only [bq] at hn9
      refine .inr ⟨_,rfl,?_⟩;replace H:=H.pure E;clear E;refine then_panic ?_;refine Sx.done_panic T.defers ?_;exact .inr ⟨rfl,.inl (rdE_none_of fun t x n hk h9=>hn9 (hd_parts hsp h9).1),H.keep [] rfl rfl⟩
    try simp only [bq] at hn9
    refine .inl ⟨_,rfl,?_⟩;clear T;intro a T;replace H:=H.pure E;clear E;obtain rfl:p0 = [64]:=hn9;revert Q2 T;refine rg [4,0,1] (zz 0 [tt,tt,uu,uu,tt,tt,tt,uu,uu,tt]) rfl fun _ Q4 T=>?_;refine mv T rfl fun _ T=> ?_;refine tk T rfl (x_index (k:=1) T rfl underlying82 ti9 (((H.at 0 rfl):Ss _ _ kc 1 _).sv) rfl rfl rfl (by first | omega | simp)) fun _ T=> ?_;refine rn T rfl (x_load1 T rfl fl9 rfl (((H.at 0 rfl):Ss _ _ kc 1 _).cell (i:=1) (j:=0) kc_len rfl rfl)) fun _ T=> ?_;refine st_call T rfl rfl rfl rfl rfl can75 rfl (HParse_calls p1 (by omega) _ (RE.at H.ext).e) ?_;rintro _ w3 ⟨x1,y1,z1,r1,rfl,hp1,E⟩;refine ⟨_,rfl,?_⟩;clear T;intro a T;replace H:=H.pure E;clear E;refine mv T rfl fun _ T=> xt T rfl fun _ T=> xt T rfl fun _ T=> ?_;refine st_eff T rfl rfl rfl rfl (y_alloc T rfl ti28 rfl _) ?_;clear T;rintro _ w4 ⟨b1,rfl,N⟩ a T;replace H:=H.new N;clear N;refine stS 0 T H ti28 rfl rfl fun w5 H=>?_;refine asn T rfl fun _ T=> ?_;revert Q4 T;refine rg [6,5,4,0,1] (zz 0 [tt,tt,uu,uu,tt]) rfl fun _ Q5 T=>?_;refine mv T rfl fun _ T=> ?_;refine tk T rfl (x_index (k:=2) T rfl underlying82 ti9 (((H.at 1 rfl):Ss _ _ kc 1 _).sv) rfl rfl rfl (by first | omega | simp)) fun _ T=> ?_;refine rn T rfl (x_load1 T rfl fl9 rfl (((H.at 1 rfl):Ss _ _ kc 1 _).cell (i:=2) (j:=0) kc_len rfl rfl)) fun _ T=> ?_;refine st_call T rfl rfl rfl rfl rfl can74 rfl (Split_calls p2 46 (by omega) _ (RE.at H.ext)) ?_;rintro _ w6 ⟨tb,rfl,K⟩;refine ⟨_,rfl,?_⟩;clear T;intro a T;replace H:=H.more K rfl;clear K;refine asn T rfl fun _ T=> ?_;revert Q5 T;refine rg [7,6,5,4,0,1] (zz 0 [tt,tt,tt,tt,tt,tt,tt,uu]) rfl fun _ Q6 T=>?_;refine mv T rfl fun _ T=> teq T rfl ?_
    clear T;intro a T;refine mv T rfl fun _ T=> ?_;refine Sl.two T 35 rfl (fun hc7 T=>?_) (fun hc7 T=>?_)
    · try simp only [bq] at hc7
      have hr0:=hc7;have hps:p1 = printS ⟨x1,y1,z1⟩:=by
        rcases hp1 with ⟨-,-,h7⟩ | ⟨h7,-⟩
        · exact h7
        omega
      refine mv T rfl fun _ T=> tln T underlying82 rfl fun _ T=> teq T rfl fun _ T=> pt T rfl fun _ T=> ?_;refine st_callE T rfl rfl rfl rfl rfl can42 rfl (need_calls _ 4 _) ?_;rintro _ w7 (⟨hn9,rfl,E⟩ | ⟨hn9,rfl,E⟩)
      rotate_left
      · skip
        try simp only [bq] at hn9
        refine .inr ⟨_,rfl,?_⟩;replace H:=H.pure E;clear E;refine then_panic ?_;refine Sx.done_panic T.defers ?_;exact .inr ⟨rfl,.inl (rdE_none_of fun t x n hk h9=>hn9 (by rw [(hd_parts hsp h9).2.2.1,spl_tn];rfl)),H.keep [] rfl rfl⟩
      try simp only [bq] at hn9
      refine .inl ⟨_,rfl,?_⟩;clear T;intro a T;replace H:=H.pure E;clear E;obtain ⟨q0,q1,q2,hsq⟩:∃ q0 q1 q2,spl 46 p2 = [q0,q1,q2]:=by
        match spl 46 p2,(by omega:(spl 46 p2).length = 3) with
        | [a,b,c],_=>exact ⟨a,b,c,rfl⟩
      have hm0:=spl_len 46 p2 q0 (by rw [hsq];simp);have hm1:=spl_len 46 p2 q1 (by rw [hsq];simp);have hm2:=spl_len 46 p2 q2 (by rw [hsq];simp);rw [hsq] at H T;revert Q6 T;refine rq [7,6,5,4,0,1] rfl fun _ Q8 T=>?_;refine wp_join (G:=Int × Int × Int × Nat) (fun ⟨n0,n1,n2,b99⟩=>[(8,.pointer (some ⟨b99,0,none⟩))]) (fun ⟨n0,n1,n2,b99⟩=>[cB b99 [.int .i64 n0,.int .i64 n1,.int .i64 n2,.int .i64 x1,.int .i64 y1,.int .i64 z1,.slice none 0 0] 31]) (fun ⟨n0,n1,n2,b99⟩=>inInt n0∧inInt n1∧inInt n2∧Lib.itoa n0 = q0∧Lib.itoa n1 = q1∧Lib.itoa n2 = q2) (T.keep [7,6,5,4,0,1] rfl) (H.keep [0,1,2,3,4,5] rfl rfl) Q8 ?_ ?_
      · clear T H Q8
        rintro ⟨n0,n1,n2,b99⟩ a w8 hJ T H;replace T:=T.keep [8,7,6,5,4,0,1] rfl;replace H:=H.keep [0,1,2,3,4,5,6] rfl rfl;obtain ⟨hi0,hi1,hi2,he0,he1,he2⟩:=hJ;refine sj (zz 0 [tt,tt,tt,uu,uu,tt,tt,uu]) rfl fun _ Q9=>?_;refine mv T rfl fun _ T=> mv T rfl fun _ T=> ?_;refine tk T rfl (x_index (k:=3) T rfl underlying82 ti9 (((H.at 3 rfl):Ss _ _ kc 1 _).sv) rfl rfl rfl (by first | omega | simp)) fun _ T=> ?_;refine rn T rfl (x_load1 T rfl fl9 rfl (((H.at 3 rfl):Ss _ _ kc 1 _).cell (i:=3) (j:=0) kc_len rfl rfl)) fun _ T=> ?_;refine st_callE T rfl rfl rfl rfl rfl can76 rfl (whole_calls p3 (by omega) _ (RE.at H.ext).e) ?_;rintro _ w9 (⟨n3,rfl,hi3,he3,E⟩ | ⟨rfl,hbad,E⟩)
        rotate_left
        · skip
          refine .inr ⟨_,rfl,?_⟩;replace H:=H.pure E;clear E;refine then_panic ?_;refine Sx.done_panic T.defers ?_;exact .inr ⟨rfl,.inl (rdE_none_of fun t x n hk h9=>hbad _ (mayT_in hk).2.2.2 (hd_parts hsp h9).2.2.2.symm),H.keep [] rfl rfl⟩
        refine .inl ⟨_,rfl,?_⟩;clear T;intro a T;replace H:=H.pure E;clear E;refine nck T rfl fun _ T=> fad T fa76_0 rfl fun _ T=> ?_;refine st_act T rfl rfl rfl (y_store1 T rfl ti3 rfl rfl rfl (H.blk 4 rfl) rfl) ?_;rintro w10 ⟨hb,E,_⟩;replace H:=H.setB 4 rfl hb E rfl;clear hb E;revert Q9 T;refine rg [8,7,6,5,4,0,1] (zz 0 [tt,tt,tt,uu,tt,tt,tt,tt,tt,uu,tt,tt,tt,uu,uu,tt,uu]) rfl fun _ Q10 T=>?_;refine mv T rfl fun _ T=> nck T rfl fun _ T=> fad T fa76_0 rfl fun _ T=> tld T fl3 (H.blk 4 rfl) rfl fun _ T=> tge T rfl fun _ T=> mv T rfl fun _ T=> ?_;refine Sl.two T 68 rfl (fun hc11 T=>?_) (fun hc11 T=>?_)
        · try simp only [bq] at hc11
          refine mv T rfl fun _ T=> nck T rfl fun _ T=> fad T fa76_0 rfl fun _ T=> tld T fl3 (H.blk 4 rfl) rfl fun _ T=> tle T rfl fun _ T=> pt T rfl fun _ T=> mv T rfl fun _ T=> ?_;refine Sl.two T 75 rfl (fun hc12 T=>?_) (fun hc12 T=>?_)
          · try simp only [bq] at hc12
            refine rn T rfl (y_loadS T rfl underlying31 ti31 rfl ((H.blk 0 rfl).seg (k:=7) rfl) (by rfl)) fun _ T=> ?_;refine cal T H can24 rfl (may_calls ⟨n0,n1,n2⟩ ⟨x1,y1,z1⟩ [] (Ss.nil _ Wt.cells 4) (by decide)) fun w11 H _ T=> pt T rfl fun _ T=> ?_;refine st_callE T rfl rfl rfl rfl rfl can42 rfl (need_calls _ 4 _) ?_;rintro _ w12 (⟨hn9,rfl,E⟩ | ⟨hn9,rfl,E⟩)
            rotate_left
            · skip
              try simp only [bq] at hn9
              refine .inr ⟨_,rfl,?_⟩;replace H:=H.pure E;clear E;refine then_panic ?_;refine Sx.done_panic T.defers ?_;exact .inr ⟨rfl,.inl (rdE_none_of fun t x n hk h9=>by
                obtain ⟨f0,f1,f2,f3⟩:=hd_parts hsp h9;obtain rfl:=itoa_inj (he3.trans f3);obtain ⟨g0,g1,g2⟩:=tn_parts hsq f2;have e0:=itoa_inj (he0.trans g0);have e1:=itoa_inj (he1.trans g1);have e2:=itoa_inj (he2.trans g2);have e4:(⟨x1,y1,z1⟩:Stp) = x:=stpT_inj (by rw [← f1,hps,printS_stpT]);have e5:(⟨n0,n1,n2⟩:Tn) = t:=by obtain ⟨a1,a2,a3⟩:=t;simp only at e0 e1 e2;rw [e0,e1,e2]
                rw [e4,e5,emay_nil.2 ⟨hk.ht,hk.hs,hk.hz⟩] at hn9;cases hn9),H.keep [] rfl rfl⟩
            try simp only [bq] at hn9
            refine .inl ⟨_,rfl,?_⟩;clear T;intro a T;replace H:=H.pure E;clear E;obtain ⟨hm7,hm8,hm9⟩:=emay_nil.1 hn9;have hrd:rdE s = some (⟨n0,n1,n2⟩,⟨x1,y1,z1⟩,n3):=rdE_parts hsp hsq (by rw [hps,printS_stpT]) he0 he1 he2 he3 ⟨hm7,hm8,hm9,⟨hi1,hi2⟩,by omega,by omega⟩;revert Q10 T;refine rq [8,7,6,5,4,0,1] rfl fun _ Q13 T=>?_;refine sj (zz 0 [tt,tt,tt,uu,tt,tt]) rfl fun _ Q14=>?_;refine mv T rfl fun _ T=> nck T rfl fun _ T=> fad T fa76_1 rfl fun _ T=> tld T fl22 (H.blk 4 rfl) rfl fun _ T=> tln T underlying22 rfl fun _ T=> asn T rfl fun _ T=> ?_;revert Q14 T;refine rg [9,8,7,6,5,4,0,1] (zz 0 [tt,tt]) rfl fun _ Q15 T=>?_;refine mv T rfl fun _ T=> tgt T rfl ?_
            clear T;intro a T;revert Q15 T;refine rif [86,9,8,7,6,5,4,0,1] rfl (fun T hc16=>?_) (fun T hc16=>?_)
            · try simp only [bq] at hc16
              obtain ⟨g0,hg0⟩:∃ q9,o[o.length - 1]? = some q9:=⟨_,List.getElem?_eq_getElem (by omega)⟩;refine wp_drawsP (fun u=>Sx.Ext (Sx.No) u) [(0,.take),(1,.held),(2,.take),(3,.take),(4,.take),(5,.held),(6,.take),(7,.take),(8,.take),(9,.take),(10,.held),(11,.run),(12,.take),(13,.run)] (by kernel_rfl) (by kernel_rfl) (fun u E _=>?_);replace H:=H.pure E;clear E;have hH:Sx.Ext (Sx.No) u u:=Sx.Ext.refl _ _;have Hu:=H;refine fad T fa31_1 rfl fun _ T=> ?_;refine hed T rfl hH (fun w' h'=>y_loadS T rfl underlying28 ti28 rfl ((Hu.heldB 0 rfl h' off_No).seg (k:=3) rfl) (by rfl)) fun _ T=> mv T rfl fun _ T=> nck T rfl fun _ T=> fad T fa76_1 rfl fun _ T=> ?_;refine hed T rfl hH (fun w' h'=>x_load1 T rfl fl22 rfl ((Hu.heldB 4 rfl h' off_No).nth rfl)) fun _ T=> mv T rfl fun _ T=> tsb T rfl (by omega) fun _ T=> ?_;refine tk T rfl (x_index (k:=o.length - 1) T rfl underlying22 ti31 (H.row 5 rfl).sv rfl rfl (by first | rfl | omega) (by omega)) ?_
              clear T;intro a T;refine fad T fa31_1 rfl fun _ T=> ?_;refine hed T rfl hH (fun w' h'=>y_loadS T rfl underlying28 ti28 rfl (((((Hu.heldR 5 rfl h' off_No).ssn rfl).cs En.len hg0).seg (i:=3) (k:=3) rfl)) (by rfl)) fun _ T=> ?_;refine cal T H can25 rfl (Compare_calls ⟨x1,y1,z1⟩ g0.s _) fun w13 H _ T=> tgt T rfl fun _ T=> ?_;refine st_callE T rfl rfl rfl rfl rfl can42 rfl (need_calls _ 4 _) ?_;rintro _ w14 (⟨hn9,rfl,E⟩ | ⟨hn9,rfl,E⟩)
              rotate_left
              · skip
                try simp only [bq] at hn9
                refine .inr ⟨_,rfl,?_⟩;refine fun a9 hd9=>?_;replace H:=H.pure E;clear E;refine then_panic ?_;refine Sx.done_panic (hd9.trans T.defers) ?_;exact .inr ⟨rfl,.inr ⟨_,hrd,fun h9=>by rw [nextE_iff hg0] at h9;have h8:=(cmp_gt (⟨x1,y1,z1⟩:Stp) g0.s).2 h9;omega⟩,H.keep [] rfl rfl⟩
              try simp only [bq] at hn9
              refine .inl ⟨_,rfl,?_⟩;clear T;intro a T;replace H:=H.pure E;clear E;have hnx:nextE (o.map En.p) ⟨x1,y1,z1⟩:=(nextE_iff hg0).2 ((cmp_gt _ _).1 hn9);replace T:=T.keep [86,9,8,7,6,5,4,0,1] rfl;clear Hu hH;refine ser_brave ?_;refine then_normal (Q13 _ _ ?_);clear Q13;revert H;refine drw (Sx.No) [(0,.take),(1,.take),(2,.take),(3,.take),(4,.held),(5,.held),(6,.keep),(7,.run),(8,.take),(9,.take),(10,.run)] (by kernel_rfl) (by kernel_rfl) fun u H hH=>?_;have Hu:=H;refine mv T rfl fun _ T=> mv T rfl fun _ T=> nck T rfl fun _ T=> fad T fa76_1 rfl fun _ T=> ?_;refine hed T rfl hH (fun w' h'=>x_load1 T rfl fl22 rfl ((Hu.heldB 4 rfl h' off_No).nth rfl)) fun _ T=> ?_;refine hed T rfl hH (fun w' h'=>y_loadS T rfl underlying31 ti31 rfl ((Hu.heldB 0 rfl h' off_No).seg (k:=7) rfl) (by rfl)) fun _ T=> ?_;refine st_effkeep T rfl rfl rfl rfl (y_slice1 T rfl underlying22 ti31 rfl rfl rfl rfl rfl rfl _) ?_;rintro _ w15 ⟨b2,rfl,N⟩;have q_b2:u.heap.size≤b2:=by have h8:=hH.size;have h9:=N.at_;omega
              refine ⟨hH.step N.ext,?_⟩;replace hH:=hH.step N.ext;clear T;intro a T;replace H:=H.new N;clear N;refine st_eff T rfl rfl rfl rfl (x_append T rfl rfl underlying22 ti31 rfl (by decide) rfl rfl (H.row 6 rfl) ((H.blk 0 rfl).sv1 rfl) (by simp [Value.oneCell']) (fun h=>by cases h) (by unfold maxLen;omega) (by omega)) ?_;rintro _ w16 ⟨ad16,c16,rfl,hr,E,hown,-⟩;clear T;intro a T;replace H:=H.setR 6 rfl hr E hown rfl;clear hr E hown;rw [show [Value.int .i64 n0,.int .i64 n1,.int .i64 n2,.int .i64 x1,.int .i64 y1,.int .i64 z1,.slice none 0 0] = En.cells (⟨⟨n0,n1,n2⟩,⟨x1,y1,z1⟩,none,0,[]⟩:En) from rfl] at H;rw [show o.flatMap En.cells++En.cells (⟨⟨n0,n1,n2⟩,⟨x1,y1,z1⟩,none,0,[]⟩:En) = (o++[(⟨⟨n0,n1,n2⟩,⟨x1,y1,z1⟩,none,0,[]⟩:En)]).flatMap En.cells from by simp] at H;rw [show o.length + 1 = (o++[(⟨⟨n0,n1,n2⟩,⟨x1,y1,z1⟩,none,0,[]⟩:En)]).length from by simp] at H T;replace H:=H.nilR 53 4;replace H:=H.famPut (x:=(⟨⟨n0,n1,n2⟩,⟨x1,y1,z1⟩,none,0,[]⟩:En)) 8 0 rfl rfl rfl rfl [1,2,3,4,5,6,7] rfl rfl (show (o++[(⟨⟨n0,n1,n2⟩,⟨x1,y1,z1⟩,none,0,[]⟩:En)]).Perm ((⟨⟨n0,n1,n2⟩,⟨x1,y1,z1⟩,none,0,[]⟩:En) :: o) from List.perm_append_comm);refine nck T rfl fun _ T=> fad T fa76_1 rfl fun _ T=> ?_;refine st_act T rfl rfl rfl (y_store1 T rfl ti22 rfl rfl rfl (H.blk 6 rfl) rfl) ?_
              rintro w17 ⟨hb,E,_⟩;replace H:=H.setB 6 rfl hb E rfl;clear hb E;replace T:=T.keep [86,9,8,7,6,5,4,0,1] rfl;clear Hu hH;refine ser_calm ?_;refine Sx.done_end ?_;refine done0 (fn:=Tryz.f41) T rfl  ?_;exact .inl ⟨_,_,⟨n0,n1,n2⟩,⟨x1,y1,z1⟩,n3,rfl,hrd,hnx,H.keep [6,7,0] rfl rfl⟩
            try simp only [bq] at hc16
            have hnx:nextE (o.map En.p) ⟨x1,y1,z1⟩:=nextE_nil (by omega);refine wp_skip ?_;refine then_normal (Q13 _ _ ?_);clear Q13;revert H;refine drw (Sx.No) [(0,.take),(1,.take),(2,.take),(3,.take),(4,.held),(5,.held),(6,.keep),(7,.run),(8,.take),(9,.take),(10,.run)] (by kernel_rfl) (by kernel_rfl) fun u H hH=>?_;have Hu:=H;refine mv T rfl fun _ T=> mv T rfl fun _ T=> nck T rfl fun _ T=> fad T fa76_1 rfl fun _ T=> ?_;refine hed T rfl hH (fun w' h'=>x_load1 T rfl fl22 rfl ((Hu.heldB 4 rfl h' off_No).nth rfl)) fun _ T=> ?_;refine hed T rfl hH (fun w' h'=>y_loadS T rfl underlying31 ti31 rfl ((Hu.heldB 0 rfl h' off_No).seg (k:=7) rfl) (by rfl)) fun _ T=> ?_;refine st_effkeep T rfl rfl rfl rfl (y_slice1 T rfl underlying22 ti31 rfl rfl rfl rfl rfl rfl _) ?_;rintro _ w18 ⟨b3,rfl,N⟩;have q_b3:u.heap.size≤b3:=by have h8:=hH.size;have h9:=N.at_;omega
            refine ⟨hH.step N.ext,?_⟩;replace hH:=hH.step N.ext;clear T;intro a T;replace H:=H.new N;clear N;refine st_eff T rfl rfl rfl rfl (x_append T rfl rfl underlying22 ti31 rfl (by decide) rfl rfl (H.row 6 rfl) ((H.blk 0 rfl).sv1 rfl) (by simp [Value.oneCell']) (fun h=>by cases h) (by unfold maxLen;omega) (by omega)) ?_;rintro _ w19 ⟨ad19,c19,rfl,hr,E,hown,-⟩;clear T;intro a T;replace H:=H.setR 6 rfl hr E hown rfl;clear hr E hown;rw [show [Value.int .i64 n0,.int .i64 n1,.int .i64 n2,.int .i64 x1,.int .i64 y1,.int .i64 z1,.slice none 0 0] = En.cells (⟨⟨n0,n1,n2⟩,⟨x1,y1,z1⟩,none,0,[]⟩:En) from rfl] at H;rw [show o.flatMap En.cells++En.cells (⟨⟨n0,n1,n2⟩,⟨x1,y1,z1⟩,none,0,[]⟩:En) = (o++[(⟨⟨n0,n1,n2⟩,⟨x1,y1,z1⟩,none,0,[]⟩:En)]).flatMap En.cells from by simp] at H;rw [show o.length + 1 = (o++[(⟨⟨n0,n1,n2⟩,⟨x1,y1,z1⟩,none,0,[]⟩:En)]).length from by simp] at H T;replace H:=H.nilR 53 4;replace H:=H.famPut (x:=(⟨⟨n0,n1,n2⟩,⟨x1,y1,z1⟩,none,0,[]⟩:En)) 8 0 rfl rfl rfl rfl [1,2,3,4,5,6,7] rfl rfl (show (o++[(⟨⟨n0,n1,n2⟩,⟨x1,y1,z1⟩,none,0,[]⟩:En)]).Perm ((⟨⟨n0,n1,n2⟩,⟨x1,y1,z1⟩,none,0,[]⟩:En) :: o) from List.perm_append_comm);refine nck T rfl fun _ T=> fad T fa76_1 rfl fun _ T=> ?_;refine st_act T rfl rfl rfl (y_store1 T rfl ti22 rfl rfl rfl (H.blk 6 rfl) rfl) ?_
            rintro w20 ⟨hb,E,_⟩;replace H:=H.setB 6 rfl hb E rfl;clear hb E;replace T:=T.keep [86,9,8,7,6,5,4,0,1] rfl;clear Hu hH;refine ser_calm ?_;refine Sx.done_end ?_;refine done0 (fn:=Tryz.f41) T rfl  ?_;exact .inl ⟨_,_,⟨n0,n1,n2⟩,⟨x1,y1,z1⟩,n3,rfl,hrd,hnx,H.keep [6,7,0] rfl rfl⟩
          try simp only [bq] at hc12
          refine st_runskip T rfl rfl rfl rfl fun _ T=> ?_;refine st_runskip T rfl rfl rfl rfl fun _ T=> pf T rfl fun _ T=> ?_;refine st_callE T rfl rfl rfl rfl rfl can42 rfl (need_calls _ 4 _) ?_;rintro _ w21 (⟨hn9,rfl,E⟩ | ⟨hn9,rfl,E⟩)
          rotate_left
          · skip
            try simp only [bq] at hn9
            refine .inr ⟨_,rfl,?_⟩;replace H:=H.pure E;clear E;refine then_panic ?_;refine Sx.done_panic T.defers ?_;exact .inr ⟨rfl,.inl (rdE_none_of fun t x n hk h9=>by
              obtain ⟨f0,f1,f2,f3⟩:=hd_parts hsp h9;obtain rfl:=itoa_inj (he3.trans f3);have h7:=hk.n0;have h8:=hk.n1
              omega),H.keep [] rfl rfl⟩
          exact absurd hn9 (by decide)
        try simp only [bq] at hc11
        refine sk T rfl fun _ T=> sk T rfl fun _ T=> sk T rfl fun _ T=> ?_;refine st_runskip T rfl rfl rfl rfl fun _ T=> sk T rfl fun _ T=> pf T rfl fun _ T=> mv T rfl fun _ T=> ?_;refine st_runskip T rfl rfl rfl rfl fun _ T=> ?_;refine st_runskip T rfl rfl rfl rfl fun _ T=> pf T rfl fun _ T=> ?_;refine st_callE T rfl rfl rfl rfl rfl can42 rfl (need_calls _ 4 _) ?_;rintro _ w22 (⟨hn9,rfl,E⟩ | ⟨hn9,rfl,E⟩)
        rotate_left
        · skip
          try simp only [bq] at hn9
          refine .inr ⟨_,rfl,?_⟩;replace H:=H.pure E;clear E;refine then_panic ?_;refine Sx.done_panic T.defers ?_;exact .inr ⟨rfl,.inl (rdE_none_of fun t x n hk h9=>by
            obtain ⟨f0,f1,f2,f3⟩:=hd_parts hsp h9;obtain rfl:=itoa_inj (he3.trans f3);have h7:=hk.n0;have h8:=hk.n1
            omega),H.keep [] rfl rfl⟩
        exact absurd hn9 (by decide)
      clear Q8;intro hJK8
      refine wp_drawsTP (fun u=>Sx.Ext (Sx.No) u) (.node [(0,.held),(1,.take),(2,.take),(3,.held),(5,.take),(6,.take),(7,.held),(9,.take),(10,.take),(11,.held)] (.node [(4,.keep)] (.node [(8,.keep)] (.leaf [(12,.keep),(13,.take),(14,.take),(15,.keep),(16,.run)]) (.leaf [(15,.keep),(12,.keep),(13,.take),(14,.take),(16,.run)])) (.leaf [(15,.keep),(8,.keep),(12,.keep),(13,.take),(14,.take),(16,.run)])) (.leaf [(15,.keep),(4,.keep),(8,.keep),(12,.keep),(13,.take),(14,.take),(16,.run)])) (by kernel_rfl) (by kernel_rfl) (fun u E _=>?_);refine tser_nodeP ?_;replace H:=H.pure E;clear E;have hH:Sx.Ext (Sx.No) u u:=Sx.Ext.refl _ _;have Hu:=H;refine hed T rfl hH (fun w' h'=>y_loadS T rfl underlying28 ti28 rfl ((Hu.heldB 1 rfl h' off_No).seg (k:=3) rfl) (by rfl)) fun _ T=> mv T rfl fun _ T=> ?_;refine tk T rfl (x_index (k:=0) T rfl underlying82 ti9 (((H.at 0 rfl):Ss _ _ kc 1 _).sv) rfl rfl rfl (by first | omega | simp)) fun _ T=> ?_;refine hed T rfl hH (fun w' h'=>x_load1 T rfl fl9 rfl (((Hu.held 0 rfl h' off_No):Ss _ _ kc 1 _).cell (i:=0) (j:=0) kc_len rfl rfl)) fun _ T=> mv T rfl fun _ T=> ?_;refine tk T rfl (x_index (k:=1) T rfl underlying82 ti9 (((H.at 0 rfl):Ss _ _ kc 1 _).sv) rfl rfl rfl (by first | omega | simp)) ?_
      clear T;intro a T;refine hed T rfl hH (fun w' h'=>x_load1 T rfl fl9 rfl (((Hu.held 0 rfl h' off_No):Ss _ _ kc 1 _).cell (i:=1) (j:=0) kc_len rfl rfl)) fun _ T=> mv T rfl fun _ T=> ?_;refine tk T rfl (x_index (k:=2) T rfl underlying82 ti9 (((H.at 0 rfl):Ss _ _ kc 1 _).sv) rfl rfl rfl (by first | omega | simp)) fun _ T=> ?_;refine hed T rfl hH (fun w' h'=>x_load1 T rfl fl9 rfl (((Hu.held 0 rfl h' off_No):Ss _ _ kc 1 _).cell (i:=2) (j:=0) kc_len rfl rfl)) fun _ T=> ?_;refine ser_forkTP ?_ ?_
      · skip
        refine tser_nodeP ?_;refine st_callEkeep T rfl rfl rfl rfl rfl can76 rfl (whole_calls q0 (by omega) _ (RE.at H.ext).e) ?_;rintro _ w23 (⟨n0,rfl,hi0,he0,E⟩ | ⟨rfl,hbad,E⟩)
        rotate_left
        · skip
          refine .inr ⟨_,rfl,?_⟩;refine fun a9 hd9=>?_;replace H:=H.pure E;clear E;refine then_panic ?_;refine Sx.done_panic (hd9.trans T.defers) ?_;exact .inr ⟨rfl,.inl (rdE_none_of fun t x n hk h9=>hbad _ (mayT_in hk).1 (tn_parts hsq (hd_parts hsp h9).2.2.1).1.symm),H.keep [] rfl rfl⟩
        refine .inl ⟨_,rfl,hH.step E,?_⟩;replace hH:=hH.step E;clear T;intro a T;replace H:=H.pure E;clear E;refine ser_forkTP ?_ ?_
        · skip
          refine tser_nodeP ?_;refine st_callEkeep T rfl rfl rfl rfl rfl can76 rfl (whole_calls q1 (by omega) _ (RE.at H.ext).e) ?_;rintro _ w24 (⟨n1,rfl,hi1,he1,E⟩ | ⟨rfl,hbad,E⟩)
          rotate_left
          · skip
            refine .inr ⟨_,rfl,?_⟩;refine fun a9 hd9=>?_;replace H:=H.pure E;clear E;refine then_panic ?_;refine Sx.done_panic (hd9.trans T.defers) ?_;exact .inr ⟨rfl,.inl (rdE_none_of fun t x n hk h9=>hbad _ (mayT_in hk).2.1 (tn_parts hsq (hd_parts hsp h9).2.2.1).2.1.symm),H.keep [] rfl rfl⟩
          refine .inl ⟨_,rfl,hH.step E,?_⟩;replace hH:=hH.step E;clear T;intro a T;replace H:=H.pure E;clear E;refine ser_forkTP ?_ ?_
          · skip
            refine tser_leafP ?_;refine st_callEkeep T rfl rfl rfl rfl rfl can76 rfl (whole_calls q2 (by omega) _ (RE.at H.ext).e) ?_;rintro _ w25 (⟨n2,rfl,hi2,he2,E⟩ | ⟨rfl,hbad,E⟩)
            rotate_left
            · skip
              refine .inr ⟨_,rfl,?_⟩;refine fun a9 hd9=>?_;replace H:=H.pure E;clear E;refine then_panic ?_;refine Sx.done_panic (hd9.trans T.defers) ?_;exact .inr ⟨rfl,.inl (rdE_none_of fun t x n hk h9=>hbad _ (mayT_in hk).2.2.1 (tn_parts hsq (hd_parts hsp h9).2.2.1).2.2.symm),H.keep [] rfl rfl⟩
            refine .inl ⟨_,rfl,hH.step E,?_⟩;replace hH:=hH.step E;clear T;intro a T;replace H:=H.pure E;clear E;refine bd T bld26 rfl fun _ T=> bd T bld31 rfl fun _ T=> ?_;refine st_effkeep T rfl rfl rfl rfl (y_alloc T rfl ti31 rfl _) ?_;rintro _ w26 ⟨b4,rfl,N⟩;have q_b4:u.heap.size≤b4:=by have h8:=hH.size;have h9:=N.at_;omega
            refine ⟨hH.step N.ext,?_⟩;replace hH:=hH.step N.ext;clear T;intro a T;replace H:=H.new N;clear N;refine stS 0 T H ti31 rfl rfl fun w27 H=>?_;replace T:=T.keep [8,7,6,5,4,0,1] rfl;clear Hu hH;refine ser_brave ?_;exact then_normal (hJK8 (n0,n1,n2,b4) _ _ ⟨hi0,hi1,hi2,he0,he1,he2⟩ (T.keep [8,7,6,5,4,0,1] rfl) (H.keep [0,1,2,3,4,5,6] rfl rfl))
          skip
          refine tser_leafP ?_;refine st_effkeep T rfl rfl rfl rfl (y_alloc T rfl ti31 rfl _) ?_;rintro _ w28 ⟨b5,rfl,N⟩;have q_b5:u.heap.size≤b5:=by have h8:=hH.size;have h9:=N.at_;omega
          refine ⟨hH.step N.ext,?_⟩;replace hH:=hH.step N.ext;clear T;intro a T;replace H:=H.new N;clear N;refine st_callEkeep T rfl rfl rfl rfl rfl can76 rfl (whole_calls q2 (by omega) _ (RE.at H.ext).e) ?_;rintro _ w29 (⟨n2,rfl,hi2,he2,E⟩ | ⟨rfl,hbad,E⟩)
          rotate_left
          · skip
            refine .inr ⟨_,rfl,?_⟩;refine fun a9 hd9=>?_;replace H:=H.pure E;clear E;refine then_panic ?_;refine Sx.done_panic (hd9.trans T.defers) ?_;exact .inr ⟨rfl,.inl (rdE_none_of fun t x n hk h9=>hbad _ (mayT_in hk).2.2.1 (tn_parts hsq (hd_parts hsp h9).2.2.1).2.2.symm),H.keep [] rfl rfl⟩
          refine .inl ⟨_,rfl,hH.step E,?_⟩;replace hH:=hH.step E;clear T;intro a T;replace H:=H.pure E;clear E;refine bd T bld26 rfl fun _ T=> bd T bld31 rfl fun _ T=> ?_;refine stS 0 T H ti31 rfl rfl fun w30 H=>?_;replace T:=T.keep [8,7,6,5,4,0,1] rfl;clear Hu hH;refine ser_brave ?_;exact then_normal (hJK8 (n0,n1,n2,b5) _ _ ⟨hi0,hi1,hi2,he0,he1,he2⟩ (T.keep [8,7,6,5,4,0,1] rfl) (H.keep [0,1,2,3,4,5,6] rfl rfl))
        skip
        refine tser_leafP ?_;refine st_effkeep T rfl rfl rfl rfl (y_alloc T rfl ti31 rfl _) ?_;rintro _ w31 ⟨b6,rfl,N⟩;have q_b6:u.heap.size≤b6:=by have h8:=hH.size;have h9:=N.at_;omega
        refine ⟨hH.step N.ext,?_⟩;replace hH:=hH.step N.ext;clear T;intro a T;replace H:=H.new N;clear N;refine st_callEkeep T rfl rfl rfl rfl rfl can76 rfl (whole_calls q1 (by omega) _ (RE.at H.ext).e) ?_;rintro _ w32 (⟨n1,rfl,hi1,he1,E⟩ | ⟨rfl,hbad,E⟩)
        rotate_left
        · skip
          refine .inr ⟨_,rfl,?_⟩;refine fun a9 hd9=>?_;replace H:=H.pure E;clear E;refine then_panic ?_;refine Sx.done_panic (hd9.trans T.defers) ?_;exact .inr ⟨rfl,.inl (rdE_none_of fun t x n hk h9=>hbad _ (mayT_in hk).2.1 (tn_parts hsq (hd_parts hsp h9).2.2.1).2.1.symm),H.keep [] rfl rfl⟩
        refine .inl ⟨_,rfl,hH.step E,?_⟩;replace hH:=hH.step E;clear T;intro a T;replace H:=H.pure E;clear E;refine st_callEkeep T rfl rfl rfl rfl rfl can76 rfl (whole_calls q2 (by omega) _ (RE.at H.ext).e) ?_;rintro _ w33 (⟨n2,rfl,hi2,he2,E⟩ | ⟨rfl,hbad,E⟩)
        rotate_left
        · skip
          refine .inr ⟨_,rfl,?_⟩;refine fun a9 hd9=>?_;replace H:=H.pure E;clear E;refine then_panic ?_;refine Sx.done_panic (hd9.trans T.defers) ?_;exact .inr ⟨rfl,.inl (rdE_none_of fun t x n hk h9=>hbad _ (mayT_in hk).2.2.1 (tn_parts hsq (hd_parts hsp h9).2.2.1).2.2.symm),H.keep [] rfl rfl⟩
        refine .inl ⟨_,rfl,hH.step E,?_⟩;replace hH:=hH.step E;clear T;intro a T;replace H:=H.pure E;clear E;refine bd T bld26 rfl fun _ T=> bd T bld31 rfl fun _ T=> ?_;refine stS 0 T H ti31 rfl rfl fun w34 H=>?_;replace T:=T.keep [8,7,6,5,4,0,1] rfl;clear Hu hH;refine ser_brave ?_;exact then_normal (hJK8 (n0,n1,n2,b6) _ _ ⟨hi0,hi1,hi2,he0,he1,he2⟩ (T.keep [8,7,6,5,4,0,1] rfl) (H.keep [0,1,2,3,4,5,6] rfl rfl))
      skip
      refine tser_leafP ?_;refine st_effkeep T rfl rfl rfl rfl (y_alloc T rfl ti31 rfl _) ?_;rintro _ w35 ⟨b7,rfl,N⟩;have q_b7:u.heap.size≤b7:=by have h8:=hH.size;have h9:=N.at_;omega
      refine ⟨hH.step N.ext,?_⟩;replace hH:=hH.step N.ext;clear T;intro a T;replace H:=H.new N;clear N;refine st_callEkeep T rfl rfl rfl rfl rfl can76 rfl (whole_calls q0 (by omega) _ (RE.at H.ext).e) ?_;rintro _ w36 (⟨n0,rfl,hi0,he0,E⟩ | ⟨rfl,hbad,E⟩)
      rotate_left
      · skip
        refine .inr ⟨_,rfl,?_⟩;refine fun a9 hd9=>?_;replace H:=H.pure E;clear E;refine then_panic ?_;refine Sx.done_panic (hd9.trans T.defers) ?_;exact .inr ⟨rfl,.inl (rdE_none_of fun t x n hk h9=>hbad _ (mayT_in hk).1 (tn_parts hsq (hd_parts hsp h9).2.2.1).1.symm),H.keep [] rfl rfl⟩
      refine .inl ⟨_,rfl,hH.step E,?_⟩;replace hH:=hH.step E;clear T;intro a T;replace H:=H.pure E;clear E;refine st_callEkeep T rfl rfl rfl rfl rfl can76 rfl (whole_calls q1 (by omega) _ (RE.at H.ext).e) ?_;rintro _ w37 (⟨n1,rfl,hi1,he1,E⟩ | ⟨rfl,hbad,E⟩)
      rotate_left
      · skip
        refine .inr ⟨_,rfl,?_⟩;refine fun a9 hd9=>?_;replace H:=H.pure E;clear E;refine then_panic ?_;refine Sx.done_panic (hd9.trans T.defers) ?_;exact .inr ⟨rfl,.inl (rdE_none_of fun t x n hk h9=>hbad _ (mayT_in hk).2.1 (tn_parts hsq (hd_parts hsp h9).2.2.1).2.1.symm),H.keep [] rfl rfl⟩
      refine .inl ⟨_,rfl,hH.step E,?_⟩;replace hH:=hH.step E;clear T;intro a T;replace H:=H.pure E;clear E;refine st_callEkeep T rfl rfl rfl rfl rfl can76 rfl (whole_calls q2 (by omega) _ (RE.at H.ext).e) ?_;rintro _ w38 (⟨n2,rfl,hi2,he2,E⟩ | ⟨rfl,hbad,E⟩)
      rotate_left
      · skip
        refine .inr ⟨_,rfl,?_⟩;refine fun a9 hd9=>?_;replace H:=H.pure E;clear E;refine then_panic ?_;refine Sx.done_panic (hd9.trans T.defers) ?_;exact .inr ⟨rfl,.inl (rdE_none_of fun t x n hk h9=>hbad _ (mayT_in hk).2.2.1 (tn_parts hsq (hd_parts hsp h9).2.2.1).2.2.symm),H.keep [] rfl rfl⟩
      refine .inl ⟨_,rfl,hH.step E,?_⟩;replace hH:=hH.step E;clear T;intro a T;replace H:=H.pure E;clear E;refine bd T bld26 rfl fun _ T=> bd T bld31 rfl fun _ T=> ?_;refine stS 0 T H ti31 rfl rfl fun w39 H=>?_;replace T:=T.keep [8,7,6,5,4,0,1] rfl;clear Hu hH;refine ser_brave ?_;exact then_normal (hJK8 (n0,n1,n2,b7) _ _ ⟨hi0,hi1,hi2,he0,he1,he2⟩ (T.keep [8,7,6,5,4,0,1] rfl) (H.keep [0,1,2,3,4,5,6] rfl rfl))
    try simp only [bq] at hc7
    have hr1:=hc7;refine sk T rfl fun _ T=> sk T rfl fun _ T=> sk T rfl fun _ T=> pf T rfl fun _ T=> ?_;refine st_callE T rfl rfl rfl rfl rfl can42 rfl (need_calls _ 4 _) ?_;rintro _ w40 (⟨hn9,rfl,E⟩ | ⟨hn9,rfl,E⟩)
    rotate_left
    · skip
      try simp only [bq] at hn9
      refine .inr ⟨_,rfl,?_⟩;replace H:=H.pure E;clear E;refine then_panic ?_;refine Sx.done_panic T.defers ?_;exact .inr ⟨rfl,.inl (rdE_none_of fun t x n hk h9=>by
        rcases hp1 with ⟨h7,-⟩ | ⟨-,-,-,-,h7⟩
        · exact hr1 h7
        exact h7 x hk.hs ((hd_parts hsp h9).2.1.trans (printS_stpT x).symm)),H.keep [] rfl rfl⟩
    exact absurd hn9 (by decide)
  try simp only [bq] at hc3
  have hlen:=hc3;refine sk T rfl fun _ T=> sk T rfl fun _ T=> ?_;refine st_runskip T rfl rfl rfl rfl fun _ T=> sk T rfl fun _ T=> pf T rfl fun _ T=> ?_;refine st_callE T rfl rfl rfl rfl rfl can42 rfl (need_calls _ 4 _) ?_;rintro _ w41 (⟨hn9,rfl,E⟩ | ⟨hn9,rfl,E⟩)
  rotate_left
  · skip
    try simp only [bq] at hn9
    refine .inr ⟨_,rfl,?_⟩;replace H:=H.pure E;clear E;refine then_panic ?_;refine Sx.done_panic T.defers ?_;exact .inr ⟨rfl,.inl (rdE_none_of fun t x n hk h9=>by rw [h9] at hlen;exact hlen rfl),H.keep [] rfl rfl⟩
  exact absurd hn9 (by decide)
theorem take2_0 {s:Key} {c d:UInt8} (h:s.take 2 = [c,d]):s[0]? = some c:=by
  have:=congrArg (fun l:Key=>l[0]?) h
  simpa using this
theorem nextW_nil {A:List En} {g:En} {w:Wt} (h:g.ws.length = 0):nextW ((A++[g]).map En.p) w:=by
  refine ⟨g.p,by simp,fun y hy=>?_⟩
  rw [show g.p.ws = g.ws from rfl,List.eq_nil_of_length_eq_zero h] at hy
  cases hy
theorem nextW_iff {A:List En} {g:En} {w y:Wt} (h:g.ws[g.ws.length - 1]? = some y):nextW ((A++[g]).map En.p) w ↔ slt y.key w.key:=by
  have e1:((A++[g]).map En.p).getLast? = some g.p:=by simp
  have e2:g.p.ws.getLast? = some y:=by rw [List.getLast?_eq_getElem?];exact h
  constructor
  · rintro ⟨e,he,h2⟩
    rw [e1] at he
    cases he
    exact h2 y e2
  intro h2
  refine ⟨g.p,e1,fun z hz=>?_⟩
  rw [e2] at hz
  cases hz
  exact h2
theorem snoc_wt {l:List Wt} {x:Wt}:l.flatMap Wt.cells++Wt.cells x = (l++[x]).flatMap Wt.cells:=by simp
set_option maxHeartbeats 1600000 in
theorem write_calls {S:Nat→Prop} (rb:Nat) (k:Int) (hk:0 < k∧k≤1000) {ad:Option Addr} {c:Nat} {A:List En} {g:En} (s:List UInt8) (hs:s.length≤30000) (ho:A.length≤2000000) (hg:g.ws.length≤2000000) {w:World} (H:Hp w S w [cB rb [.int .i64 k,.slice ad (A++[g]).length c] 76,cR 31 7 ad (A++[g]).length c ((A++[g]).flatMap En.cells),cF 53 4 En.rw (A++[g])]) (RE:Ro w S Env2):Calls Tryz.prog 40 #[.pointer (some ⟨rb,0,none⟩),.string ⟨s.toArray⟩] w fun e w'=>(∃ ad' c' wt,e = .returned (.tuple #[])∧rdW s = some wt∧nextW ((A++[g]).map En.p) wt∧Hp w S w' [cB rb [.int .i64 (k - 1),.slice ad (A++[(⟨g.t,g.s,ad',c',g.ws++[wt]⟩:En)]).length c] 76,cR 31 7 ad (A++[(⟨g.t,g.s,ad',c',g.ws++[wt]⟩:En)]).length c ((A++[(⟨g.t,g.s,ad',c',g.ws++[wt]⟩:En)]).flatMap En.cells),cF 53 4 En.rw (A++[(⟨g.t,g.s,ad',c',g.ws++[wt]⟩:En)])])∨(e = stopE 4∧(rdW s = none∨∃ wt,rdW s = some wt∧¬ nextW ((A++[g]).map En.p) wt)∧Hp w S w' []):=by
  have hAg:(A++[g]).length = A.length + 1:=by simp
  refine calls_into func40 rfl ntmps40 rfl fun _ T=> ?_;replace T:=T.keep [0,1] rfl;refine sj (zz 0 [tt,tt,tt,tt,tt,tt,tt,tt,tt,tt,tt,tt,tt,tt,tt,tt,tt,tt,uu]) rfl fun _ Q1=>?_;refine mv T rfl fun _ T=> tls T underlying9 rfl fun _ T=> tgt T rfl fun _ T=> mv T rfl fun _ T=> ?_;refine Sl.two T 13 rfl (fun hc2 T=>?_) (fun hc2 T=>?_)
  · try simp only [bq] at hc2
    have hlen:3 < s.length:=by have h9:=hc2;omega
    obtain ⟨ch,hch⟩:∃ q9,s[2]? = some q9:=⟨_,List.getElem?_eq_getElem (by omega)⟩;refine mv T rfl fun _ T=> ?_;refine tk T rfl (x_sliceStr_h (q:=2) T rfl underlying9 rfl rfl (by omega) (by omega)) fun _ T=> tse T rfl fun _ T=> mv T rfl fun _ T=> ?_;refine Sl.two T 17 rfl (fun hc3 T=>?_) (fun hc3 T=>?_)
    · try simp only [bq] at hc3
      have h0:s.take 2 = [43,32]:=hc3;have hc0:=take2_0 h0;refine sk T rfl fun _ T=> sk T rfl fun _ T=> sk T rfl fun _ T=> pt T rfl fun _ T=> pt T rfl fun _ T=> mv T rfl fun _ T=> mv T rfl fun _ T=> ?_;refine tk T rfl (x_indexStr (k:=2) T rfl underlying9 rfl rfl (by omega) hch) fun _ T=> teq T rfl fun _ T=> pt T rfl fun _ T=> ?_;refine st_callE T rfl rfl rfl rfl rfl can42 rfl (need_calls _ 4 _) ?_;rintro _ w1 (⟨hn9,rfl,E⟩ | ⟨hn9,rfl,E⟩)
      rotate_left
      · skip
        try simp only [bq] at hn9
        refine .inr ⟨_,rfl,?_⟩;replace H:=H.pure E;clear E;refine then_panic ?_;refine Sx.done_panic T.defers ?_;exact .inr ⟨rfl,.inl (rdW_bad (fun ⟨h1,h2,h3⟩=>by rw [hch] at h3;cases h3;exact hn9 rfl)),H.keep [] rfl rfl⟩
      try simp only [bq] at hn9
      refine .inl ⟨_,rfl,?_⟩;clear T;intro a T;replace H:=H.pure E;clear E;revert Q1 T;refine rq [0,1] rfl fun _ Q4 T=>?_;have hib:=idx_bd (s.drop 3) 34;rw [List.length_drop] at hib;refine wp_text (zz 0 [tt,tt,uu,tt,tt]) rfl ?_;refine mv T rfl fun _ T=> ?_;refine tk T rfl (x_sliceStr_l (p:=3) T rfl underlying9 rfl rfl (by omega) (by omega)) fun _ T=> ?_;refine cal T H can70 rfl (IndexByte_calls (s.drop 3) 34 _) fun w2 H _ T=> tad T rfl (by omega) fun _ T=> ?_;obtain ⟨n,he⟩:∃ n:Nat,endW s = n:=⟨(endW s).toNat,by have:=endW_bd s hlen;omega⟩;have hnb:=endW_bd s hlen;rw [show (4:Int) + Lib.indexByte (s.drop 3) 34 = (n:Int) from he] at T;refine asn T rfl fun _ T=> ?_;revert Q4 T;refine rg [4,0,1] (zz 0 [tt,tt,tt,tt,uu,tt,tt,tt,tt,tt]) rfl fun _ Q5 T=>?_;refine mv T rfl ?_
      clear T;intro a T;refine mv T rfl fun _ T=> ?_;refine tk T rfl (x_max T rfl rfl rfl) fun _ T=> ?_;rw [show max (n:Int) 2 = (n:Int) from by omega] at T;refine tk T rfl (x_sliceStr_lh (p:=2) (q:=n) T rfl underlying9 rfl rfl rfl (by omega) (by omega) (by omega) (by omega)) fun _ T=> ?_;refine cal T H can71 rfl (Unquote_calls ((s.take n).drop 2) _ (by rw [List.length_drop,List.length_take];omega)) fun w3 H _ T=> mv T rfl fun _ T=> xt T rfl fun _ T=> xt T rfl fun _ T=> asn T rfl fun _ T=> asn T rfl fun _ T=> ?_;revert Q5 T;refine rg [6,5,4,0,1] (zz 0 [tt,tt,tt,tt,uu,tt,uu]) rfl fun _ Q6 T=>?_;refine mv T rfl fun _ T=> teq T rfl fun _ T=> ?_
      refine mv T rfl fun _ T=> ?_;refine Sl.two T 43 rfl (fun hc7 T=>?_) (fun hc7 T=>?_)
      · try simp only [bq] at hc7
        have hu0:=hc7;refine mv T rfl fun _ T=> ?_;refine cal T H can72 rfl (Key_calls (unq ((s.take n).drop 2)).1 _) fun w4 H _ T=> pt T rfl fun _ T=> ?_;refine st_callE T rfl rfl rfl rfl rfl can42 rfl (need_calls _ 4 _) ?_;rintro _ w5 (⟨hn9,rfl,E⟩ | ⟨hn9,rfl,E⟩)
        rotate_left
        · skip
          try simp only [bq] at hn9
          refine .inr ⟨_,rfl,?_⟩;replace H:=H.pure E;clear E;refine then_panic ?_;refine Sx.done_panic T.defers ?_;exact .inr ⟨rfl,.inl (rdW_badk he (fun ⟨h1,h2⟩=>by rw [hn9] at h2;cases h2)),H.keep [] rfl rfl⟩
        try simp only [bq] at hn9
        refine .inl ⟨_,rfl,?_⟩;clear T;intro a T;replace H:=H.pure E;clear E;have hk9:=hn9;revert Q6 T;refine rg [6,5,4,0,1] (zz 0 [tt,tt,uu,uu]) rfl fun _ Q8 T=>?_;refine mv T rfl fun _ T=> bd T bld53 rfl fun _ T=> ?_;refine st_eff T rfl rfl rfl rfl (y_alloc T rfl ti53 rfl _) ?_;clear T;rintro _ w6 ⟨b1,rfl,N⟩ a T;replace H:=H.new N;clear N;refine stS 0 T H ti53 rfl rfl fun w7 H=>?_;revert Q8 T;refine rq [7,6,5,4,0,1] rfl fun _ Q9 T=>?_;refine wp_join (G:=Wt) (fun wt=>[]) (fun wt=>[cB b1 (Wt.cells wt) 53]) (fun wt=>rdW s = some wt∧wt.key = (unq ((s.take n).drop 2)).1) (T.keep [7,5,4,0,1] rfl) (H.keep [1,2,3] rfl rfl) Q9 ?_ ?_
        · clear T H Q9
          rintro wt a w8 hJ T H;replace T:=T.keep [7,5,4,0,1] rfl;replace H:=H.keep [0,1,2,3] rfl rfl;obtain ⟨hrd,hwk⟩:=hJ;refine wp_seq_k fun _ Q10=>?_;revert H;refine drw (Sx.No) [(0,.take),(1,.take),(2,.take),(3,.held),(4,.take),(5,.take),(6,.take),(7,.held),(8,.take),(9,.take),(10,.take),(11,.take)] (by kernel_rfl) (by kernel_rfl) fun u H hH=>?_;have Hu:=H;refine mv T rfl fun _ T=> nck T rfl fun _ T=> fad T fa76_1 rfl fun _ T=> ?_;refine hed T rfl hH (fun w' h'=>x_load1 T rfl fl22 rfl ((Hu.heldB 1 rfl h' off_No).nth rfl)) fun _ T=> mv T rfl fun _ T=> nck T rfl fun _ T=> fad T fa76_1 rfl fun _ T=> ?_;refine hed T rfl hH (fun w' h'=>x_load1 T rfl fl22 rfl ((Hu.heldB 1 rfl h' off_No).nth rfl)) fun _ T=> tln T underlying22 rfl fun _ T=> tsb T rfl (by omega) ?_
          clear T;intro a T;refine tk T rfl (x_index (k:=A.length) T rfl underlying22 ti31 (H.row 2 rfl).sv rfl rfl (by first | rfl | omega) (by omega)) fun _ T=> asn T rfl fun _ T=> ?_;replace T:=T.keep [8,7,5,4,0,1] rfl;clear Hu hH;refine ser_calm ?_;revert Q10;refine nx fun _ Q11=>?_;refine sj (zz 0 [tt,tt,tt,uu,tt,tt]) rfl fun _ Q12=>?_;refine mv T rfl fun _ T=> nck T rfl fun _ T=> fad T fa31_2 rfl fun _ T=> ?_;refine rn T rfl (x_load1 T rfl fl29 rfl (((H.row 2 rfl).ssn (xs:=A++[g]) (enc:=En.cells) rfl).cell (i:=A.length) (j:=6) En.len (show (A++[g])[A.length]? = some g by simp) rfl)) fun _ T=> tln T underlying29 rfl fun _ T=> asn T rfl fun _ T=> ?_;revert Q12 T;refine rg [9,8,7,5,4,0,1] (zz 0 [tt,tt]) rfl fun _ Q13 T=>?_;refine mv T rfl ?_
          clear T;intro a T;refine tgt T rfl fun _ T=> ?_;revert Q13 T;refine rif [104,9,8,7,5,4,0,1] rfl (fun T hc14=>?_) (fun T hc14=>?_)
          · try simp only [bq] at hc14
            obtain ⟨y,hy⟩:∃ q9,g.ws[g.ws.length - 1]? = some q9:=⟨_,List.getElem?_eq_getElem (by omega)⟩;refine wp_text (zz 0 [tt,tt,tt,uu,tt,tt,tt,tt,uu,tt,tt,uu]) rfl ?_;refine mv T rfl fun _ T=> nck T rfl fun _ T=> fad T fa31_2 rfl fun _ T=> ?_;refine rn T rfl (x_load1 T rfl fl29 rfl (((H.row 2 rfl).ssn (xs:=A++[g]) (enc:=En.cells) rfl).cell (i:=A.length) (j:=6) En.len (show (A++[g])[A.length]? = some g by simp) rfl)) fun _ T=> mv T rfl fun _ T=> tsb T rfl (by omega) fun _ T=> ?_;refine tk T rfl (x_index (k:=g.ws.length - 1) T rfl underlying29 ti53 ((H.fam 3 rfl).row g (by simp)).sv rfl rfl (by omega) (show g.ws.length - 1 < g.ws.length by omega)) fun _ T=> fad T fa53_0 rfl fun _ T=> ?_;refine rn T rfl (x_load1 T rfl fl9 rfl ((Row.ssn (xs:=g.ws) (enc:=Wt.cells) ((H.fam 3 rfl).row g (by simp)) rfl).cell (i:=g.ws.length - 1) (j:=0) Wt.len hy rfl)) fun _ T=> ?_
            refine mv T rfl fun _ T=> ?_;refine tk T rfl ((fun w=>x_strlt w T rfl rfl rfl)) fun _ T=> ?_;refine st_callE T rfl rfl rfl rfl rfl can42 rfl (need_calls _ 4 _) ?_;rintro _ w9 (⟨hn9,rfl,E⟩ | ⟨hn9,rfl,E⟩)
            rotate_left
            · skip
              try simp only [bq] at hn9
              refine .inr ⟨_,rfl,?_⟩;replace H:=H.pure E;clear E;refine then_panic ?_;refine Sx.done_panic T.defers ?_;exact .inr ⟨rfl,.inr ⟨_,hrd,fun h9=>by rw [nextW_iff hy] at h9;unfold slt at h9;rw [hwk,hn9] at h9;cases h9⟩,H.keep [] rfl rfl⟩
            try simp only [bq] at hn9
            refine .inl ⟨_,rfl,?_⟩;clear T;intro a T;replace H:=H.pure E;clear E;have hnx:nextW ((A++[g]).map En.p) wt:=(nextW_iff hy).2 (by unfold slt;rw [hwk];exact hn9);revert Q11 T;refine rq [104,9,8,7,5,4,0,1] rfl fun _ Q15 T=>?_;replace H:=H.famTake (x:=g) (L':=A) 3 rfl (show (A++[g]).Perm (g :: A) from List.perm_append_comm) rfl;replace H:Sx.Hp w S w9 (cR 53 4 g.ad g.ws.length g.c (g.ws.flatMap Wt.cells) :: _):=H;revert H;refine drw (Sx.No) [(0,.take),(1,.take),(2,.take),(3,.take),(4,.held),(5,.held),(6,.keep),(7,.run),(8,.take),(9,.take),(10,.run)] (by kernel_rfl) (by kernel_rfl) fun u H hH=>?_;have Hu:=H;refine mv T rfl fun _ T=> mv T rfl fun _ T=> nck T rfl fun _ T=> fad T fa31_2 rfl fun _ T=> ?_;refine hed T rfl hH (fun w' h'=>x_load1 T rfl fl29 rfl (((Hu.heldR 3 rfl h' off_No).ssn (xs:=A++[g]) (enc:=En.cells) rfl).cell (i:=A.length) (j:=6) En.len (show (A++[g])[A.length]? = some g by simp) rfl)) fun _ T=> ?_;refine hed T rfl hH (fun w' h'=>y_loadS T rfl underlying53 ti53 rfl ((Hu.heldB 1 rfl h' off_No).seg (k:=4) rfl) (by rfl)) ?_
            clear T;intro a T;refine st_effkeep T rfl rfl rfl rfl (y_slice1 T rfl underlying29 ti53 rfl rfl rfl rfl rfl rfl _) ?_;rintro _ w10 ⟨b2,rfl,N⟩;have q_b2:u.heap.size≤b2:=by have h8:=hH.size;have h9:=N.at_;omega
            refine ⟨hH.step N.ext,?_⟩;replace hH:=hH.step N.ext;clear T;intro a T;replace H:=H.new N;clear N;refine st_eff T rfl rfl rfl rfl (x_append T rfl rfl underlying29 ti53 rfl (by decide) rfl rfl (H.row 1 rfl) ((H.blk 0 rfl).sv1 rfl) (by simp [Value.oneCell']) (fun h=>by cases h) (by unfold maxLen;omega) (by omega)) ?_;rintro _ w11 ⟨ad11,c11,rfl,hr,E,hown,-⟩;clear T;intro a T;replace H:=H.setR 1 rfl hr E hown rfl;clear hr E hown;rw [show [Value.string ⟨wt.key.toArray⟩,Value.int .i64 wt.v.k,Value.float .f64 wt.v.num,Value.string ⟨wt.v.tx.toArray⟩] = Wt.cells wt from rfl,snoc_wt] at H;rw [show g.ws.length + 1 = (g.ws++[wt]).length from by simp] at H T;refine nck T rfl fun _ T=> fad T fa31_2 rfl fun _ T=> ?_;refine st_act T rfl rfl rfl (x_storeRowF (k:=A.length) (j:=6) (enc:=En.cells) (xs:=A++[g]) (r:=g) (r':=(⟨g.t,g.s,ad11,c11,g.ws++[wt]⟩:En)) T rfl ti29 rfl rfl rfl En.len (H.row 4 rfl) (show (A++[g])[A.length]? = some g by simp) (by simp) (by decide) rfl) ?_;rintro w12 ⟨hr,E,_⟩;replace H:=H.setR 4 rfl hr E (fun _ hk=>.inl hk) rfl;clear hr E;rw [show (A++[g]).set A.length (⟨g.t,g.s,ad11,c11,g.ws++[wt]⟩:En) = A++[(⟨g.t,g.s,ad11,c11,g.ws++[wt]⟩:En)] from by rw [List.set_append_right _ _ (Nat.le_refl _),Nat.sub_self];rfl] at H;rw [show (A++[g]).length = (A++[(⟨g.t,g.s,ad11,c11,g.ws++[wt]⟩:En)]).length from by simp] at H
            replace H:=H.famPut (x:=(⟨g.t,g.s,ad11,c11,g.ws++[wt]⟩:En)) 5 1 rfl rfl rfl rfl [0,2,3,4] rfl rfl (show (A++[(⟨g.t,g.s,ad11,c11,g.ws++[wt]⟩:En)]).Perm ((⟨g.t,g.s,ad11,c11,g.ws++[wt]⟩:En) :: A) from List.perm_append_comm);replace T:=T.keep [104,9,8,7,5,4,0,1] rfl;clear Hu hH;refine ser_calm ?_;refine then_normal (Q15 _ _ ?_);clear Q15;refine wp_text (zz 0 [tt,tt,tt,uu,tt,tt,tt,uu]) rfl ?_;refine mv T rfl fun _ T=> nck T rfl fun _ T=> fad T fa76_0 rfl fun _ T=> tld T fl3 (H.blk 3 rfl) rfl fun _ T=> tsb T rfl (by omega) fun _ T=> nck T rfl fun _ T=> fad T fa76_0 rfl fun _ T=> ?_;refine st_act T rfl rfl rfl (y_store1 T rfl ti3 rfl rfl rfl (H.blk 3 rfl) rfl) ?_;rintro w13 ⟨hb,E,_⟩;replace H:=H.setB 3 rfl hb E rfl;clear hb E;replace T:=T.keep [104,9,8,7,5,4,0,1] rfl;refine ser_nil ?_;refine Sx.done_end ?_;refine done0 (fn:=Tryz.f40) T rfl  ?_;exact .inl ⟨_,_,wt,rfl,hrd,hnx,H.keep [3,4,0] rfl rfl⟩
          try simp only [bq] at hc14
          have hnx:nextW ((A++[g]).map En.p) wt:=nextW_nil (by omega);refine wp_skip ?_;revert Q11;refine nx fun _ Q16=>?_;replace H:=H.famTake (x:=g) (L':=A) 3 rfl (show (A++[g]).Perm (g :: A) from List.perm_append_comm) rfl;replace H:Sx.Hp w S u (cR 53 4 g.ad g.ws.length g.c (g.ws.flatMap Wt.cells) :: _):=H;revert H;refine drw (Sx.No) [(0,.take),(1,.take),(2,.take),(3,.take),(4,.held),(5,.held),(6,.keep),(7,.run),(8,.take),(9,.take),(10,.run)] (by kernel_rfl) (by kernel_rfl) fun u H hH=>?_;have Hu:=H;refine mv T rfl fun _ T=> mv T rfl fun _ T=> nck T rfl fun _ T=> fad T fa31_2 rfl fun _ T=> ?_;refine hed T rfl hH (fun w' h'=>x_load1 T rfl fl29 rfl (((Hu.heldR 3 rfl h' off_No).ssn (xs:=A++[g]) (enc:=En.cells) rfl).cell (i:=A.length) (j:=6) En.len (show (A++[g])[A.length]? = some g by simp) rfl)) fun _ T=> ?_;refine hed T rfl hH (fun w' h'=>y_loadS T rfl underlying53 ti53 rfl ((Hu.heldB 1 rfl h' off_No).seg (k:=4) rfl) (by rfl)) fun _ T=> ?_;refine st_effkeep T rfl rfl rfl rfl (y_slice1 T rfl underlying29 ti53 rfl rfl rfl rfl rfl rfl _) ?_
          rintro _ w14 ⟨b3,rfl,N⟩;have q_b3:u.heap.size≤b3:=by have h8:=hH.size;have h9:=N.at_;omega
          refine ⟨hH.step N.ext,?_⟩;replace hH:=hH.step N.ext;clear T;intro a T;replace H:=H.new N;clear N;refine st_eff T rfl rfl rfl rfl (x_append T rfl rfl underlying29 ti53 rfl (by decide) rfl rfl (H.row 1 rfl) ((H.blk 0 rfl).sv1 rfl) (by simp [Value.oneCell']) (fun h=>by cases h) (by unfold maxLen;omega) (by omega)) ?_;rintro _ w15 ⟨ad15,c15,rfl,hr,E,hown,-⟩;clear T;intro a T;replace H:=H.setR 1 rfl hr E hown rfl;clear hr E hown;rw [show [Value.string ⟨wt.key.toArray⟩,Value.int .i64 wt.v.k,Value.float .f64 wt.v.num,Value.string ⟨wt.v.tx.toArray⟩] = Wt.cells wt from rfl,snoc_wt] at H;rw [show g.ws.length + 1 = (g.ws++[wt]).length from by simp] at H T;refine nck T rfl fun _ T=> fad T fa31_2 rfl fun _ T=> ?_;refine st_act T rfl rfl rfl (x_storeRowF (k:=A.length) (j:=6) (enc:=En.cells) (xs:=A++[g]) (r:=g) (r':=(⟨g.t,g.s,ad15,c15,g.ws++[wt]⟩:En)) T rfl ti29 rfl rfl rfl En.len (H.row 4 rfl) (show (A++[g])[A.length]? = some g by simp) (by simp) (by decide) rfl) ?_;rintro w16 ⟨hr,E,_⟩;replace H:=H.setR 4 rfl hr E (fun _ hk=>.inl hk) rfl;clear hr E;rw [show (A++[g]).set A.length (⟨g.t,g.s,ad15,c15,g.ws++[wt]⟩:En) = A++[(⟨g.t,g.s,ad15,c15,g.ws++[wt]⟩:En)] from by rw [List.set_append_right _ _ (Nat.le_refl _),Nat.sub_self];rfl] at H;rw [show (A++[g]).length = (A++[(⟨g.t,g.s,ad15,c15,g.ws++[wt]⟩:En)]).length from by simp] at H
          replace H:=H.famPut (x:=(⟨g.t,g.s,ad15,c15,g.ws++[wt]⟩:En)) 5 1 rfl rfl rfl rfl [0,2,3,4] rfl rfl (show (A++[(⟨g.t,g.s,ad15,c15,g.ws++[wt]⟩:En)]).Perm ((⟨g.t,g.s,ad15,c15,g.ws++[wt]⟩:En) :: A) from List.perm_append_comm);replace T:=T.keep [104,9,8,7,5,4,0,1] rfl;clear Hu hH;refine ser_calm ?_;refine then_normal (Q16 _ _ ?_);clear Q16;refine wp_text (zz 0 [tt,tt,tt,uu,tt,tt,tt,uu]) rfl ?_;refine mv T rfl fun _ T=> nck T rfl fun _ T=> fad T fa76_0 rfl fun _ T=> tld T fl3 (H.blk 3 rfl) rfl fun _ T=> tsb T rfl (by omega) fun _ T=> nck T rfl fun _ T=> fad T fa76_0 rfl fun _ T=> ?_;refine st_act T rfl rfl rfl (y_store1 T rfl ti3 rfl rfl rfl (H.blk 3 rfl) rfl) ?_;rintro w17 ⟨hb,E,_⟩;replace H:=H.setB 3 rfl hb E rfl;clear hb E;replace T:=T.keep [104,9,8,7,5,4,0,1] rfl;refine ser_nil ?_;refine Sx.done_end ?_;refine done0 (fn:=Tryz.f40) T rfl  ?_;exact .inl ⟨_,_,wt,rfl,hrd,hnx,H.keep [3,4,0] rfl rfl⟩
        clear Q9;intro hJK9
        refine sj (zz 0 [tt,tt,tt]) rfl fun _ Q17=>?_;refine mv T rfl fun _ T=> ?_;refine tk T rfl (x_indexStr (k:=0) T rfl underlying9 rfl rfl (by omega) hc0) fun _ T=> teq T rfl fun _ T=> ?_;revert Q17 T;refine rif [52,7,6,5,4,0,1] rfl (fun T hc18=>?_) (fun T hc18=>?_)
        · try simp only [bq] at hc18
          refine sj (zz 0 [tt,tt,tt,tt,tt,tt,tt,tt,tt,tt,uu]) rfl fun _ Q19=>?_;refine mv T rfl fun _ T=> tls T underlying9 rfl fun _ T=> mv T rfl fun _ T=> tgt T rfl fun _ T=> mv T rfl fun _ T=> ?_;refine Sl.two T 57 rfl (fun hc20 T=>?_) (fun hc20 T=>?_)
          · try simp only [bq] at hc20
            obtain ⟨cn,hcn⟩:∃ q9,s[n]? = some q9:=⟨_,List.getElem?_eq_getElem (by omega)⟩;refine mv T rfl fun _ T=> mv T rfl fun _ T=> ?_;refine tk T rfl (x_indexStr (k:=n) T rfl underlying9 rfl rfl (by omega) hcn) fun _ T=> teq T rfl fun _ T=> pt T rfl fun _ T=> ?_;refine st_callE T rfl rfl rfl rfl rfl can42 rfl (need_calls _ 4 _) ?_;rintro _ w18 (⟨hn9,rfl,E⟩ | ⟨hn9,rfl,E⟩)
            rotate_left
            · skip
              try simp only [bq] at hn9
              refine .inr ⟨_,rfl,?_⟩;replace H:=H.pure E;clear E;refine then_panic ?_;refine then_panic ?_;refine Sx.done_panic T.defers ?_;exact .inr ⟨rfl,.inl (rdW_badv he h0 (fun ⟨h1,_⟩=>by rw [hcn] at h1;cases h1;exact hn9 rfl)),H.keep [] rfl rfl⟩
            try simp only [bq] at hn9
            refine .inl ⟨_,rfl,?_⟩;clear T;intro a T;replace H:=H.pure E;clear E;have hsp9:=hn9;revert Q19 T;refine rg [52,7,6,5,4,0,1] (zz 0 [tt,tt,tt,tt,uu,tt,tt,tt,tt,uu,tt]) rfl fun _ Q21 T=>?_;refine mv T rfl fun _ T=> mv T rfl fun _ T=> tad T rfl (by omega) fun _ T=> ?_;refine tk T rfl (x_sliceStr_l (p:=n + 1) T rfl underlying9 rfl rfl (by omega) (by omega)) fun _ T=> ?_;refine cal T H can73 rfl (ParseV_calls (s.drop (n + 1)) (by rw [List.length_drop];omega) _ (RE.at H.ext).e) fun w19 H _ T=> mv T rfl fun _ T=> xt T rfl fun _ T=> xt T rfl fun _ T=> fad T fa53_1 rfl fun _ T=> ?_;refine stS 0 T H ti51 rfl rfl fun w20 H=>?_;refine asn T rfl fun _ T=> ?_;revert Q21 T;refine rp [6,52,7,5,4,0,1] rfl fun T=>?_;refine wp_text (zz 0 [tt,tt,tt,tt,tt,uu,tt,tt,uu]) rfl ?_;refine mv T rfl fun _ T=> teq T rfl fun _ T=> mv T rfl fun _ T=> ?_;refine Sl.two T 75 rfl (fun hc22 T=>?_) (fun hc22 T=>?_)
            · try simp only [bq] at hc22
              have hv0:=hc22;refine fad T fa53_1 rfl fun _ T=> fad T fa51_0 rfl fun _ T=> tld T fl3 (H.blk 0 rfl) rfl fun _ T=> tne T rfl fun _ T=> pt T rfl fun _ T=> ?_;refine st_callE T rfl rfl rfl rfl rfl can42 rfl (need_calls _ 4 _) ?_;rintro _ w21 (⟨hn9,rfl,E⟩ | ⟨hn9,rfl,E⟩)
              rotate_left
              · skip
                try simp only [bq] at hn9
                refine .inr ⟨_,rfl,?_⟩;replace H:=H.pure E;clear E;refine then_panic ?_;refine Sx.done_panic T.defers ?_;exact .inr ⟨rfl,.inl (rdW_badv he h0 (fun ⟨_,h1,h2⟩=>h2 (by simpa using hn9))),H.keep [] rfl rfl⟩
              try simp only [bq] at hn9
              refine .inl ⟨_,rfl,?_⟩;clear T;intro a T;replace H:=H.pure E;clear E;have hv9:=hn9;replace T:=T.keep [6,52,7,5,4,0,1] rfl;refine ser_nil ?_;exact then_normal (hJK9 ⟨(unq ((s.take n).drop 2)).1,(parseV (s.drop (n + 1))).1⟩ _ _ ⟨rdW_plus hlen he h0 hu0 hk9 (by rw [hcn];exact congrArg some (u8_of (k:=32) (by decide) hsp9)) hv0 hv9,rfl⟩ (T.keep [7,5,4,0,1] rfl) (H.keep [0,1,2,3] rfl rfl))
            try simp only [bq] at hc22
            have hv0:=hc22;refine sk T rfl fun _ T=> sk T rfl fun _ T=> ?_;refine st_runskip T rfl rfl rfl rfl fun _ T=> sk T rfl fun _ T=> pf T rfl fun _ T=> ?_;refine st_callE T rfl rfl rfl rfl rfl can42 rfl (need_calls _ 4 _) ?_;rintro _ w22 (⟨hn9,rfl,E⟩ | ⟨hn9,rfl,E⟩)
            rotate_left
            · skip
              try simp only [bq] at hn9
              refine .inr ⟨_,rfl,?_⟩;replace H:=H.pure E;clear E;refine then_panic ?_;refine Sx.done_panic T.defers ?_;exact .inr ⟨rfl,.inl (rdW_badv he h0 (fun ⟨_,h1,h2⟩=>hv0 h1)),H.keep [] rfl rfl⟩
            exact absurd hn9 (by decide)
          try simp only [bq] at hc20
          have hgt:¬ n < s.length:=by have h9:=hc20;omega
          refine sk T rfl fun _ T=> sk T rfl fun _ T=> sk T rfl fun _ T=> sk T rfl fun _ T=> pf T rfl fun _ T=> ?_;refine st_callE T rfl rfl rfl rfl rfl can42 rfl (need_calls _ 4 _) ?_;rintro _ w23 (⟨hn9,rfl,E⟩ | ⟨hn9,rfl,E⟩)
          rotate_left
          · skip
            try simp only [bq] at hn9
            refine .inr ⟨_,rfl,?_⟩;replace H:=H.pure E;clear E;refine then_panic ?_;refine then_panic ?_;refine Sx.done_panic T.defers ?_;exact .inr ⟨rfl,.inl (rdW_badv he h0 (fun ⟨h1,_⟩=>hgt (List.getElem?_eq_some_iff.1 h1).1)),H.keep [] rfl rfl⟩
          exact absurd hn9 (by decide)
        exfalso
        try simp only [bq] at hc18
        exact hc18 rfl
      try simp only [bq] at hc7
      have hu0:=hc7;refine sk T rfl fun _ T=> ?_;refine st_runskip T rfl rfl rfl rfl fun _ T=> pf T rfl fun _ T=> ?_;refine st_callE T rfl rfl rfl rfl rfl can42 rfl (need_calls _ 4 _) ?_;rintro _ w24 (⟨hn9,rfl,E⟩ | ⟨hn9,rfl,E⟩)
      rotate_left
      · skip
        try simp only [bq] at hn9
        refine .inr ⟨_,rfl,?_⟩;replace H:=H.pure E;clear E;refine then_panic ?_;refine Sx.done_panic T.defers ?_;exact .inr ⟨rfl,.inl (rdW_badk he (fun ⟨h1,h2⟩=>hu0 h1)),H.keep [] rfl rfl⟩
      exact absurd hn9 (by decide)
    try simp only [bq] at hc3
    have h7:¬ s.take 2 = [43,32]:=hc3;refine mv T rfl fun _ T=> ?_;refine tk T rfl (x_sliceStr_h (q:=2) T rfl underlying9 rfl rfl (by omega) (by omega)) fun _ T=> tse T rfl fun _ T=> pf T rfl fun _ T=> pt T rfl fun _ T=> mv T rfl fun _ T=> ?_;refine Sl.two T 23 rfl (fun hc23 T=>?_) (fun hc23 T=>?_)
    · try simp only [bq] at hc23
      have h0:s.take 2 = [45,32]:=hc23;have hc0:=take2_0 h0;refine mv T rfl fun _ T=> ?_;refine tk T rfl (x_indexStr (k:=2) T rfl underlying9 rfl rfl (by omega) hch) fun _ T=> teq T rfl fun _ T=> pt T rfl fun _ T=> ?_;refine st_callE T rfl rfl rfl rfl rfl can42 rfl (need_calls _ 4 _) ?_;rintro _ w25 (⟨hn9,rfl,E⟩ | ⟨hn9,rfl,E⟩)
      rotate_left
      · skip
        try simp only [bq] at hn9
        refine .inr ⟨_,rfl,?_⟩;replace H:=H.pure E;clear E;refine then_panic ?_;refine Sx.done_panic T.defers ?_;exact .inr ⟨rfl,.inl (rdW_bad (fun ⟨h1,h2,h3⟩=>by rw [hch] at h3;cases h3;exact hn9 rfl)),H.keep [] rfl rfl⟩
      try simp only [bq] at hn9
      refine .inl ⟨_,rfl,?_⟩;clear T;intro a T;replace H:=H.pure E;clear E;revert Q1 T;refine rq [0,1] rfl fun _ Q24 T=>?_;have hib:=idx_bd (s.drop 3) 34;rw [List.length_drop] at hib;refine wp_text (zz 0 [tt,tt,uu,tt,tt]) rfl ?_;refine mv T rfl fun _ T=> ?_;refine tk T rfl (x_sliceStr_l (p:=3) T rfl underlying9 rfl rfl (by omega) (by omega)) fun _ T=> ?_;refine cal T H can70 rfl (IndexByte_calls (s.drop 3) 34 _) fun w26 H _ T=> tad T rfl (by omega) fun _ T=> ?_;obtain ⟨n,he⟩:∃ n:Nat,endW s = n:=⟨(endW s).toNat,by have:=endW_bd s hlen;omega⟩;have hnb:=endW_bd s hlen;rw [show (4:Int) + Lib.indexByte (s.drop 3) 34 = (n:Int) from he] at T;refine asn T rfl fun _ T=> ?_;revert Q24 T;refine rg [4,0,1] (zz 0 [tt,tt,tt,tt,uu,tt,tt,tt,tt,tt]) rfl fun _ Q25 T=>?_;refine mv T rfl ?_
      clear T;intro a T;refine mv T rfl fun _ T=> ?_;refine tk T rfl (x_max T rfl rfl rfl) fun _ T=> ?_;rw [show max (n:Int) 2 = (n:Int) from by omega] at T;refine tk T rfl (x_sliceStr_lh (p:=2) (q:=n) T rfl underlying9 rfl rfl rfl (by omega) (by omega) (by omega) (by omega)) fun _ T=> ?_;refine cal T H can71 rfl (Unquote_calls ((s.take n).drop 2) _ (by rw [List.length_drop,List.length_take];omega)) fun w27 H _ T=> mv T rfl fun _ T=> xt T rfl fun _ T=> xt T rfl fun _ T=> asn T rfl fun _ T=> asn T rfl fun _ T=> ?_;revert Q25 T;refine rg [6,5,4,0,1] (zz 0 [tt,tt,tt,tt,uu,tt,uu]) rfl fun _ Q26 T=>?_;refine mv T rfl fun _ T=> teq T rfl fun _ T=> ?_
      refine mv T rfl fun _ T=> ?_;refine Sl.two T 43 rfl (fun hc27 T=>?_) (fun hc27 T=>?_)
      · try simp only [bq] at hc27
        have hu0:=hc27;refine mv T rfl fun _ T=> ?_;refine cal T H can72 rfl (Key_calls (unq ((s.take n).drop 2)).1 _) fun w28 H _ T=> pt T rfl fun _ T=> ?_;refine st_callE T rfl rfl rfl rfl rfl can42 rfl (need_calls _ 4 _) ?_;rintro _ w29 (⟨hn9,rfl,E⟩ | ⟨hn9,rfl,E⟩)
        rotate_left
        · skip
          try simp only [bq] at hn9
          refine .inr ⟨_,rfl,?_⟩;replace H:=H.pure E;clear E;refine then_panic ?_;refine Sx.done_panic T.defers ?_;exact .inr ⟨rfl,.inl (rdW_badk he (fun ⟨h1,h2⟩=>by rw [hn9] at h2;cases h2)),H.keep [] rfl rfl⟩
        try simp only [bq] at hn9
        refine .inl ⟨_,rfl,?_⟩;clear T;intro a T;replace H:=H.pure E;clear E;have hk9:=hn9;revert Q26 T;refine rg [6,5,4,0,1] (zz 0 [tt,tt,uu,uu]) rfl fun _ Q28 T=>?_;refine mv T rfl fun _ T=> bd T bld53 rfl fun _ T=> ?_;refine st_eff T rfl rfl rfl rfl (y_alloc T rfl ti53 rfl _) ?_;clear T;rintro _ w30 ⟨b4,rfl,N⟩ a T;replace H:=H.new N;clear N;refine stS 0 T H ti53 rfl rfl fun w31 H=>?_;revert Q28 T;refine rq [7,6,5,4,0,1] rfl fun _ Q29 T=>?_;refine wp_join (G:=Wt) (fun wt=>[]) (fun wt=>[cB b4 (Wt.cells wt) 53]) (fun wt=>rdW s = some wt∧wt.key = (unq ((s.take n).drop 2)).1) (T.keep [7,5,4,0,1] rfl) (H.keep [1,2,3] rfl rfl) Q29 ?_ ?_
        · clear T H Q29
          rintro wt a w32 hJ T H;replace T:=T.keep [7,5,4,0,1] rfl;replace H:=H.keep [0,1,2,3] rfl rfl;obtain ⟨hrd,hwk⟩:=hJ;refine wp_seq_k fun _ Q30=>?_;revert H;refine drw (Sx.No) [(0,.take),(1,.take),(2,.take),(3,.held),(4,.take),(5,.take),(6,.take),(7,.held),(8,.take),(9,.take),(10,.take),(11,.take)] (by kernel_rfl) (by kernel_rfl) fun u H hH=>?_;have Hu:=H;refine mv T rfl fun _ T=> nck T rfl fun _ T=> fad T fa76_1 rfl fun _ T=> ?_;refine hed T rfl hH (fun w' h'=>x_load1 T rfl fl22 rfl ((Hu.heldB 1 rfl h' off_No).nth rfl)) fun _ T=> mv T rfl fun _ T=> nck T rfl fun _ T=> fad T fa76_1 rfl fun _ T=> ?_;refine hed T rfl hH (fun w' h'=>x_load1 T rfl fl22 rfl ((Hu.heldB 1 rfl h' off_No).nth rfl)) fun _ T=> tln T underlying22 rfl fun _ T=> tsb T rfl (by omega) ?_
          clear T;intro a T;refine tk T rfl (x_index (k:=A.length) T rfl underlying22 ti31 (H.row 2 rfl).sv rfl rfl (by first | rfl | omega) (by omega)) fun _ T=> asn T rfl fun _ T=> ?_;replace T:=T.keep [8,7,5,4,0,1] rfl;clear Hu hH;refine ser_calm ?_;revert Q30;refine nx fun _ Q31=>?_;refine sj (zz 0 [tt,tt,tt,uu,tt,tt]) rfl fun _ Q32=>?_;refine mv T rfl fun _ T=> nck T rfl fun _ T=> fad T fa31_2 rfl fun _ T=> ?_;refine rn T rfl (x_load1 T rfl fl29 rfl (((H.row 2 rfl).ssn (xs:=A++[g]) (enc:=En.cells) rfl).cell (i:=A.length) (j:=6) En.len (show (A++[g])[A.length]? = some g by simp) rfl)) fun _ T=> tln T underlying29 rfl fun _ T=> asn T rfl fun _ T=> ?_;revert Q32 T;refine rg [9,8,7,5,4,0,1] (zz 0 [tt,tt]) rfl fun _ Q33 T=>?_;refine mv T rfl ?_
          clear T;intro a T;refine tgt T rfl fun _ T=> ?_;revert Q33 T;refine rif [104,9,8,7,5,4,0,1] rfl (fun T hc34=>?_) (fun T hc34=>?_)
          · try simp only [bq] at hc34
            obtain ⟨y,hy⟩:∃ q9,g.ws[g.ws.length - 1]? = some q9:=⟨_,List.getElem?_eq_getElem (by omega)⟩;refine wp_text (zz 0 [tt,tt,tt,uu,tt,tt,tt,tt,uu,tt,tt,uu]) rfl ?_;refine mv T rfl fun _ T=> nck T rfl fun _ T=> fad T fa31_2 rfl fun _ T=> ?_;refine rn T rfl (x_load1 T rfl fl29 rfl (((H.row 2 rfl).ssn (xs:=A++[g]) (enc:=En.cells) rfl).cell (i:=A.length) (j:=6) En.len (show (A++[g])[A.length]? = some g by simp) rfl)) fun _ T=> mv T rfl fun _ T=> tsb T rfl (by omega) fun _ T=> ?_;refine tk T rfl (x_index (k:=g.ws.length - 1) T rfl underlying29 ti53 ((H.fam 3 rfl).row g (by simp)).sv rfl rfl (by omega) (show g.ws.length - 1 < g.ws.length by omega)) fun _ T=> fad T fa53_0 rfl fun _ T=> ?_;refine rn T rfl (x_load1 T rfl fl9 rfl ((Row.ssn (xs:=g.ws) (enc:=Wt.cells) ((H.fam 3 rfl).row g (by simp)) rfl).cell (i:=g.ws.length - 1) (j:=0) Wt.len hy rfl)) fun _ T=> ?_
            refine mv T rfl fun _ T=> ?_;refine tk T rfl ((fun w=>x_strlt w T rfl rfl rfl)) fun _ T=> ?_;refine st_callE T rfl rfl rfl rfl rfl can42 rfl (need_calls _ 4 _) ?_;rintro _ w33 (⟨hn9,rfl,E⟩ | ⟨hn9,rfl,E⟩)
            rotate_left
            · skip
              try simp only [bq] at hn9
              refine .inr ⟨_,rfl,?_⟩;replace H:=H.pure E;clear E;refine then_panic ?_;refine Sx.done_panic T.defers ?_;exact .inr ⟨rfl,.inr ⟨_,hrd,fun h9=>by rw [nextW_iff hy] at h9;unfold slt at h9;rw [hwk,hn9] at h9;cases h9⟩,H.keep [] rfl rfl⟩
            try simp only [bq] at hn9
            refine .inl ⟨_,rfl,?_⟩;clear T;intro a T;replace H:=H.pure E;clear E;have hnx:nextW ((A++[g]).map En.p) wt:=(nextW_iff hy).2 (by unfold slt;rw [hwk];exact hn9);revert Q31 T;refine rq [104,9,8,7,5,4,0,1] rfl fun _ Q35 T=>?_;replace H:=H.famTake (x:=g) (L':=A) 3 rfl (show (A++[g]).Perm (g :: A) from List.perm_append_comm) rfl;replace H:Sx.Hp w S w33 (cR 53 4 g.ad g.ws.length g.c (g.ws.flatMap Wt.cells) :: _):=H;revert H;refine drw (Sx.No) [(0,.take),(1,.take),(2,.take),(3,.take),(4,.held),(5,.held),(6,.keep),(7,.run),(8,.take),(9,.take),(10,.run)] (by kernel_rfl) (by kernel_rfl) fun u H hH=>?_;have Hu:=H;refine mv T rfl fun _ T=> mv T rfl fun _ T=> nck T rfl fun _ T=> fad T fa31_2 rfl fun _ T=> ?_;refine hed T rfl hH (fun w' h'=>x_load1 T rfl fl29 rfl (((Hu.heldR 3 rfl h' off_No).ssn (xs:=A++[g]) (enc:=En.cells) rfl).cell (i:=A.length) (j:=6) En.len (show (A++[g])[A.length]? = some g by simp) rfl)) fun _ T=> ?_;refine hed T rfl hH (fun w' h'=>y_loadS T rfl underlying53 ti53 rfl ((Hu.heldB 1 rfl h' off_No).seg (k:=4) rfl) (by rfl)) ?_
            clear T;intro a T;refine st_effkeep T rfl rfl rfl rfl (y_slice1 T rfl underlying29 ti53 rfl rfl rfl rfl rfl rfl _) ?_;rintro _ w34 ⟨b5,rfl,N⟩;have q_b5:u.heap.size≤b5:=by have h8:=hH.size;have h9:=N.at_;omega
            refine ⟨hH.step N.ext,?_⟩;replace hH:=hH.step N.ext;clear T;intro a T;replace H:=H.new N;clear N;refine st_eff T rfl rfl rfl rfl (x_append T rfl rfl underlying29 ti53 rfl (by decide) rfl rfl (H.row 1 rfl) ((H.blk 0 rfl).sv1 rfl) (by simp [Value.oneCell']) (fun h=>by cases h) (by unfold maxLen;omega) (by omega)) ?_;rintro _ w35 ⟨ad35,c35,rfl,hr,E,hown,-⟩;clear T;intro a T;replace H:=H.setR 1 rfl hr E hown rfl;clear hr E hown;rw [show [Value.string ⟨wt.key.toArray⟩,Value.int .i64 wt.v.k,Value.float .f64 wt.v.num,Value.string ⟨wt.v.tx.toArray⟩] = Wt.cells wt from rfl,snoc_wt] at H;rw [show g.ws.length + 1 = (g.ws++[wt]).length from by simp] at H T;refine nck T rfl fun _ T=> fad T fa31_2 rfl fun _ T=> ?_;refine st_act T rfl rfl rfl (x_storeRowF (k:=A.length) (j:=6) (enc:=En.cells) (xs:=A++[g]) (r:=g) (r':=(⟨g.t,g.s,ad35,c35,g.ws++[wt]⟩:En)) T rfl ti29 rfl rfl rfl En.len (H.row 4 rfl) (show (A++[g])[A.length]? = some g by simp) (by simp) (by decide) rfl) ?_;rintro w36 ⟨hr,E,_⟩;replace H:=H.setR 4 rfl hr E (fun _ hk=>.inl hk) rfl;clear hr E;rw [show (A++[g]).set A.length (⟨g.t,g.s,ad35,c35,g.ws++[wt]⟩:En) = A++[(⟨g.t,g.s,ad35,c35,g.ws++[wt]⟩:En)] from by rw [List.set_append_right _ _ (Nat.le_refl _),Nat.sub_self];rfl] at H;rw [show (A++[g]).length = (A++[(⟨g.t,g.s,ad35,c35,g.ws++[wt]⟩:En)]).length from by simp] at H
            replace H:=H.famPut (x:=(⟨g.t,g.s,ad35,c35,g.ws++[wt]⟩:En)) 5 1 rfl rfl rfl rfl [0,2,3,4] rfl rfl (show (A++[(⟨g.t,g.s,ad35,c35,g.ws++[wt]⟩:En)]).Perm ((⟨g.t,g.s,ad35,c35,g.ws++[wt]⟩:En) :: A) from List.perm_append_comm);replace T:=T.keep [104,9,8,7,5,4,0,1] rfl;clear Hu hH;refine ser_calm ?_;refine then_normal (Q35 _ _ ?_);clear Q35;refine wp_text (zz 0 [tt,tt,tt,uu,tt,tt,tt,uu]) rfl ?_;refine mv T rfl fun _ T=> nck T rfl fun _ T=> fad T fa76_0 rfl fun _ T=> tld T fl3 (H.blk 3 rfl) rfl fun _ T=> tsb T rfl (by omega) fun _ T=> nck T rfl fun _ T=> fad T fa76_0 rfl fun _ T=> ?_;refine st_act T rfl rfl rfl (y_store1 T rfl ti3 rfl rfl rfl (H.blk 3 rfl) rfl) ?_;rintro w37 ⟨hb,E,_⟩;replace H:=H.setB 3 rfl hb E rfl;clear hb E;replace T:=T.keep [104,9,8,7,5,4,0,1] rfl;refine ser_nil ?_;refine Sx.done_end ?_;refine done0 (fn:=Tryz.f40) T rfl  ?_;exact .inl ⟨_,_,wt,rfl,hrd,hnx,H.keep [3,4,0] rfl rfl⟩
          try simp only [bq] at hc34
          have hnx:nextW ((A++[g]).map En.p) wt:=nextW_nil (by omega);refine wp_skip ?_;revert Q31;refine nx fun _ Q36=>?_;replace H:=H.famTake (x:=g) (L':=A) 3 rfl (show (A++[g]).Perm (g :: A) from List.perm_append_comm) rfl;replace H:Sx.Hp w S u (cR 53 4 g.ad g.ws.length g.c (g.ws.flatMap Wt.cells) :: _):=H;revert H;refine drw (Sx.No) [(0,.take),(1,.take),(2,.take),(3,.take),(4,.held),(5,.held),(6,.keep),(7,.run),(8,.take),(9,.take),(10,.run)] (by kernel_rfl) (by kernel_rfl) fun u H hH=>?_;have Hu:=H;refine mv T rfl fun _ T=> mv T rfl fun _ T=> nck T rfl fun _ T=> fad T fa31_2 rfl fun _ T=> ?_;refine hed T rfl hH (fun w' h'=>x_load1 T rfl fl29 rfl (((Hu.heldR 3 rfl h' off_No).ssn (xs:=A++[g]) (enc:=En.cells) rfl).cell (i:=A.length) (j:=6) En.len (show (A++[g])[A.length]? = some g by simp) rfl)) fun _ T=> ?_;refine hed T rfl hH (fun w' h'=>y_loadS T rfl underlying53 ti53 rfl ((Hu.heldB 1 rfl h' off_No).seg (k:=4) rfl) (by rfl)) fun _ T=> ?_;refine st_effkeep T rfl rfl rfl rfl (y_slice1 T rfl underlying29 ti53 rfl rfl rfl rfl rfl rfl _) ?_
          rintro _ w38 ⟨b6,rfl,N⟩;have q_b6:u.heap.size≤b6:=by have h8:=hH.size;have h9:=N.at_;omega
          refine ⟨hH.step N.ext,?_⟩;replace hH:=hH.step N.ext;clear T;intro a T;replace H:=H.new N;clear N;refine st_eff T rfl rfl rfl rfl (x_append T rfl rfl underlying29 ti53 rfl (by decide) rfl rfl (H.row 1 rfl) ((H.blk 0 rfl).sv1 rfl) (by simp [Value.oneCell']) (fun h=>by cases h) (by unfold maxLen;omega) (by omega)) ?_;rintro _ w39 ⟨ad39,c39,rfl,hr,E,hown,-⟩;clear T;intro a T;replace H:=H.setR 1 rfl hr E hown rfl;clear hr E hown;rw [show [Value.string ⟨wt.key.toArray⟩,Value.int .i64 wt.v.k,Value.float .f64 wt.v.num,Value.string ⟨wt.v.tx.toArray⟩] = Wt.cells wt from rfl,snoc_wt] at H;rw [show g.ws.length + 1 = (g.ws++[wt]).length from by simp] at H T;refine nck T rfl fun _ T=> fad T fa31_2 rfl fun _ T=> ?_;refine st_act T rfl rfl rfl (x_storeRowF (k:=A.length) (j:=6) (enc:=En.cells) (xs:=A++[g]) (r:=g) (r':=(⟨g.t,g.s,ad39,c39,g.ws++[wt]⟩:En)) T rfl ti29 rfl rfl rfl En.len (H.row 4 rfl) (show (A++[g])[A.length]? = some g by simp) (by simp) (by decide) rfl) ?_;rintro w40 ⟨hr,E,_⟩;replace H:=H.setR 4 rfl hr E (fun _ hk=>.inl hk) rfl;clear hr E;rw [show (A++[g]).set A.length (⟨g.t,g.s,ad39,c39,g.ws++[wt]⟩:En) = A++[(⟨g.t,g.s,ad39,c39,g.ws++[wt]⟩:En)] from by rw [List.set_append_right _ _ (Nat.le_refl _),Nat.sub_self];rfl] at H;rw [show (A++[g]).length = (A++[(⟨g.t,g.s,ad39,c39,g.ws++[wt]⟩:En)]).length from by simp] at H
          replace H:=H.famPut (x:=(⟨g.t,g.s,ad39,c39,g.ws++[wt]⟩:En)) 5 1 rfl rfl rfl rfl [0,2,3,4] rfl rfl (show (A++[(⟨g.t,g.s,ad39,c39,g.ws++[wt]⟩:En)]).Perm ((⟨g.t,g.s,ad39,c39,g.ws++[wt]⟩:En) :: A) from List.perm_append_comm);replace T:=T.keep [104,9,8,7,5,4,0,1] rfl;clear Hu hH;refine ser_calm ?_;refine then_normal (Q36 _ _ ?_);clear Q36;refine wp_text (zz 0 [tt,tt,tt,uu,tt,tt,tt,uu]) rfl ?_;refine mv T rfl fun _ T=> nck T rfl fun _ T=> fad T fa76_0 rfl fun _ T=> tld T fl3 (H.blk 3 rfl) rfl fun _ T=> tsb T rfl (by omega) fun _ T=> nck T rfl fun _ T=> fad T fa76_0 rfl fun _ T=> ?_;refine st_act T rfl rfl rfl (y_store1 T rfl ti3 rfl rfl rfl (H.blk 3 rfl) rfl) ?_;rintro w41 ⟨hb,E,_⟩;replace H:=H.setB 3 rfl hb E rfl;clear hb E;replace T:=T.keep [104,9,8,7,5,4,0,1] rfl;refine ser_nil ?_;refine Sx.done_end ?_;refine done0 (fn:=Tryz.f40) T rfl  ?_;exact .inl ⟨_,_,wt,rfl,hrd,hnx,H.keep [3,4,0] rfl rfl⟩
        clear Q29;intro hJK29
        refine sj (zz 0 [tt,tt,tt]) rfl fun _ Q37=>?_;refine mv T rfl fun _ T=> ?_;refine tk T rfl (x_indexStr (k:=0) T rfl underlying9 rfl rfl (by omega) hc0) fun _ T=> teq T rfl fun _ T=> ?_;revert Q37 T;refine rif [52,7,6,5,4,0,1] rfl (fun T hc38=>?_) (fun T hc38=>?_)
        · exfalso
          try simp only [bq] at hc38
          exact absurd hc38 (by decide)
        try simp only [bq] at hc38
        refine wp_text (zz 0 [tt,tt,tt,tt,uu]) rfl ?_;refine mv T rfl fun _ T=> tls T underlying9 rfl fun _ T=> mv T rfl fun _ T=> teq T rfl fun _ T=> ?_;refine st_callE T rfl rfl rfl rfl rfl can42 rfl (need_calls _ 4 _) ?_;rintro _ w42 (⟨hn9,rfl,E⟩ | ⟨hn9,rfl,E⟩)
        rotate_left
        · skip
          try simp only [bq] at hn9
          refine .inr ⟨_,rfl,?_⟩;replace H:=H.pure E;clear E;refine then_panic ?_;refine Sx.done_panic T.defers ?_;exact .inr ⟨rfl,.inl (rdW_badm he h0 (by omega)),H.keep [] rfl rfl⟩
        try simp only [bq] at hn9
        refine .inl ⟨_,rfl,?_⟩;clear T;intro a T;replace H:=H.pure E;clear E;have hln9:s.length = n:=by omega
        replace T:=T.keep [52,7,6,5,4,0,1] rfl;refine ser_nil ?_;exact then_normal (hJK29 ⟨(unq ((s.take n).drop 2)).1,zeroV⟩ _ _ ⟨rdW_minus hlen he h0 hu0 hk9 hln9,rfl⟩ (T.keep [7,5,4,0,1] rfl) (H.keep [0,1,2,3] rfl rfl))
      try simp only [bq] at hc27
      have hu0:=hc27;refine sk T rfl fun _ T=> ?_;refine st_runskip T rfl rfl rfl rfl fun _ T=> pf T rfl fun _ T=> ?_;refine st_callE T rfl rfl rfl rfl rfl can42 rfl (need_calls _ 4 _) ?_;rintro _ w43 (⟨hn9,rfl,E⟩ | ⟨hn9,rfl,E⟩)
      rotate_left
      · skip
        try simp only [bq] at hn9
        refine .inr ⟨_,rfl,?_⟩;replace H:=H.pure E;clear E;refine then_panic ?_;refine Sx.done_panic T.defers ?_;exact .inr ⟨rfl,.inl (rdW_badk he (fun ⟨h1,h2⟩=>hu0 h1)),H.keep [] rfl rfl⟩
      exact absurd hn9 (by decide)
    try simp only [bq] at hc23
    have h8:¬ s.take 2 = [45,32]:=hc23;refine sk T rfl fun _ T=> sk T rfl fun _ T=> sk T rfl fun _ T=> pf T rfl fun _ T=> ?_;refine st_callE T rfl rfl rfl rfl rfl can42 rfl (need_calls _ 4 _) ?_;rintro _ w44 (⟨hn9,rfl,E⟩ | ⟨hn9,rfl,E⟩)
    rotate_left
    · skip
      try simp only [bq] at hn9
      refine .inr ⟨_,rfl,?_⟩;replace H:=H.pure E;clear E;refine then_panic ?_;refine Sx.done_panic T.defers ?_;exact .inr ⟨rfl,.inl (rdW_bad (fun ⟨h1,h2,h3⟩=>h2.elim h7 h8)),H.keep [] rfl rfl⟩
    exact absurd hn9 (by decide)
  try simp only [bq] at hc2
  have hlen:=hc2;refine sk T rfl fun _ T=> sk T rfl fun _ T=> sk T rfl fun _ T=> sk T rfl fun _ T=> sk T rfl fun _ T=> sk T rfl fun _ T=> sk T rfl fun _ T=> sk T rfl fun _ T=> pf T rfl fun _ T=> mv T rfl fun _ T=> sk T rfl fun _ T=> sk T rfl fun _ T=> sk T rfl fun _ T=> pf T rfl fun _ T=> ?_;refine st_callE T rfl rfl rfl rfl rfl can42 rfl (need_calls _ 4 _) ?_;rintro _ w45 (⟨hn9,rfl,E⟩ | ⟨hn9,rfl,E⟩)
  rotate_left
  · skip
    try simp only [bq] at hn9
    refine .inr ⟨_,rfl,?_⟩;replace H:=H.pure E;clear E;refine then_panic ?_;refine Sx.done_panic T.defers ?_;exact .inr ⟨rfl,.inl (rdW_bad (fun ⟨h1,h2,h3⟩=>by omega)),H.keep [] rfl rfl⟩
  exact absurd hn9 (by decide)
/-! what a call that was put off recovers -/
section
variable {P:Program} {nz:Sz} {l:List (Nat × Value)} {a:Act} {w:World} {o:Oper}
theorem x_typeAssert {t e:TypeId} {u:TypeDesc} {x:Operand} {v:Value} (T:Sl nz l a) (hop:o.op = .typeAssert x t e true) (hu:P.underlying e = some u) (hn:∀ ms,u ≠ .interface ms) (hx:opnd l x = some (.iface e v)) (w:World) :
    (execOp a.eval o).run P w = .ok (.value (.tuple #[v,.bool true])) w:=by
  have h1:(Instr.typeAssert (.iface e v) t e true).run P w = .ok (.tuple #[v,.bool true]) w:=by
    unfold Instr.typeAssert
    cases u <;> simp_all [underlying,program,Sem.run]
  simp [execOp,hop,T.eval hx,h1]
theorem callsD_rec {f:FuncId} {fn:Func} {id d k:Nat} {ops:Array Oper} {ts:Array TypeId} {c2:Code} {vs:List Value} {u u':FrameMode} {v:Value} {R:Ending→FrameMode→World→Prop}
    (hf:P.funcs[f]? = some fn) (hb:fn.body = some (.seq (.region id ops false) c2)) (hk:fn.ntmps = k) (hlen:Nat.ble vs.length k = true)
    (hops:ops = #[o]) (hop:o.op = .call { callee:=.builtin .recover,args:=#[],argTypes:=ts }) (hg:o.guard = none) (hd:o.dst = some d) (hn:Nat.blt d k = true)
    (hr:∀ (c₀:Frame) (cs:List Frame),c₀.mode = u→(recoverD (c₀ :: cs) = some (v,{ c₀ with mode:=u' } :: cs))∨(recoverD (c₀ :: cs) = none∧v = .nilIface∧u' = u))
    (h:∀ a,Sl ⟨k,[]⟩ ((d,v) :: enum vs 0) a→c2.wp P (bodyPost P fn fun e w'=>R e u' w') a w):CallsD P f vs.toArray u w R:=by
  refine callsD_into hf hb hk hlen fun a c₀ cs hu T=>wpS_region ?_
  subst hops
  have hlt:d < k:=Nat.le_of_ble_eq_true hn
  have hw:Region.wanted o (yielded #[o] a.tmps) = true:=by simp [Region.wanted,hg]
  have he:(execOp a.eval o).run P w = .ok .recover w:=by
    simp [execOp,hop,resolve,invoke,builtin,Sem.run]
  have fin:∀ a':Act,c2.wp P (bodyPost P fn fun e w'=>R e u' w') a' w→c2.wpS P (bodyPostS P fn c₀ cs R) a' ({ c₀ with mode:=u' } :: cs) w:=fun a' h9=>by
    refine wpS_of_wp (Code.wp_mono (fun e a w h=>?_) h9)
    cases e <;> first | exact ⟨h.1,_,rfl,h.2⟩ | exact ⟨_,h⟩ | exact h
  show wpOpsS P #[o] _ [0] a (c₀ :: cs) w
  simp only [wpOpsS,List.getElem?_toArray,List.getElem?_cons_zero,hw,if_true,he]
  have hput:=T.put (d:=d) hlt v
  rcases hr c₀ cs hu with h1 | ⟨h1,rfl,rfl⟩
  · simp only [h1]
    rw [hd]
    exact fin _ (h _ hput)
  simp only [h1]
  rw [hd]
  have hc:({ c₀ with mode:=u' }:Frame) = c₀:=by subst hu;rfl
  have:=fin _ (h _ hput)
  rw [hc] at this
  exact this
theorem rec_panic {v:Value} {c₀:Frame} {cs:List Frame} (h:c₀.mode = .panicking [{ v:=v,recovered:=false }]):recoverD (c₀ :: cs) = some (v,{ c₀ with mode:=.panicking [{ v:=v,recovered:=true }] } :: cs):=by
  simp [recoverD,h]
theorem rec_idle {c₀:Frame} {cs:List Frame} (h:c₀.mode = .returning):recoverD (c₀ :: cs) = none:=by
  simp [recoverD,h]
end
theorem idle_calls (ba bb:Nat) (w:World):CallsD Tryz.prog 37 #[.pointer (some ⟨ba,0,none⟩),.pointer (some ⟨bb,0,none⟩)] .returning w fun e u' w'=>e = .returned (.tuple #[])∧u' = .returning∧Ext No w w':=by
  refine callsD_rec (id:=0) (d:=5) (ops:=_) (v:=.nilIface) (u':=.returning) func37 rfl ntmps37 rfl rfl rfl rfl rfl rfl (fun c₀ cs h=>.inr ⟨rec_idle h,rfl,rfl⟩) fun _ T=> ?_;replace T:=T.keep [5,0,1] rfl;have H:Sx.Hp w (Sx.No) w []:=Sx.Hp.start _ _;refine wp_block ?_;refine sj (zz 0 [tt]) rfl fun _ Q1=>?_;refine tk T rfl ((fun w9=>x_eqNil T rfl underlying20 rfl (u:=73) (.inl rfl) w9)) fun _ T=> ?_;revert Q1 T;refine rif [7,5,0,1] rfl (fun T hc2=>?_) (fun T hc2=>?_)
  · try simp only [bq] at hc2
    refine wp_text (zz 0 [tt]) rfl ?_;refine asn T rfl fun _ T=> ?_;replace T:=T.keep [7,5,0,1] rfl;refine ser_nil ?_;refine block_normal ?_;refine Sx.done_end ?_;refine done0 (fn:=Tryz.f37) T rfl  ?_;exact ⟨rfl,rfl,H.ext⟩
  exfalso
  try simp only [bq] at hc2
  exact absurd hc2 (by decide)
theorem caught_calls {S:Nat→Prop} (ba bb:Nat) (c:Int) {v1 v2:Value} {w:World} (H:Hp w S w [cB ba [v1] 22,cB bb [v2] 33]):CallsD Tryz.prog 37 #[.pointer (some ⟨ba,0,none⟩),.pointer (some ⟨bb,0,none⟩)] (.panicking [{ v:=stopV c,recovered:=false }]) w fun e u' w'=>e = .returned (.tuple #[])∧u' = .panicking [{ v:=stopV c,recovered:=true }]∧Hp w S w' [cB ba [.slice none 0 0] 22,cB bb [.int .i64 c] 33]:=by
  refine callsD_rec (id:=0) (d:=5) (ops:=_) (v:=stopV c) (u':=(.panicking [{ v:=stopV c,recovered:=true }])) func37 rfl ntmps37 rfl rfl rfl rfl rfl rfl (fun c₀ cs h=>.inl (rec_panic h)) fun _ T=> ?_;replace T:=T.keep [5,0,1] rfl;refine wp_block ?_;refine sj (zz 0 [tt]) rfl fun _ Q1=>?_;refine tk T rfl ((fun w9=>x_eqNil T rfl underlying20 rfl (u:=73) (.inr ⟨_,rfl⟩) w9)) fun _ T=> ?_;revert Q1 T;refine rif [7,5,0,1] rfl (fun T hc2=>?_) (fun T hc2=>?_)
  · exfalso
    try simp only [bq] at hc2
    simp [neNil] at hc2
  try simp only [bq] at hc2
  refine sj (zz 0 [tt,tt,tt]) rfl fun _ Q3=>?_;refine tk T rfl (x_typeAssert T rfl underlying73 (fun _ h=>by cases h) rfl) fun _ T=> xt T rfl fun _ T=> xt T rfl fun _ T=> ?_;revert Q3 T;refine rif [10,9,7,5,0,1] rfl (fun T hc4=>?_) (fun T hc4=>?_)
  · try simp only [bq] at hc4
    refine sj (zz 0 [uu,uu]) rfl fun _ Q5=>?_;refine st_eff T rfl rfl rfl rfl (y_alloc T rfl ti73 rfl _) ?_;clear T;rintro _ w1 ⟨b1,rfl,N⟩ a T;replace H:=H.new N;clear N;refine stS 0 T H ti73 rfl rfl fun w2 H=>?_;replace T:=T.keep [3,10,9,7,5,0,1] rfl;refine ser_nil ?_;refine then_normal (Q5 _ _ ?_);clear Q5;revert H;refine drw (fun k=>Sx.One ba k∨Sx.One bb k) [(0,.take),(1,.held),(2,.keep),(3,.run)] (by kernel_rfl) (by kernel_rfl) fun u H hH=>?_;have Hu:=H;refine fad T fa73_0 rfl fun _ T=> ?_;refine hed T rfl hH (fun w' h'=>x_load1 T rfl fl33 rfl ((Hu.heldB 0 rfl h' (Hu.off2 (i:=0) (j:=1) (k9:=2) rfl rfl rfl rfl rfl)).nth rfl)) fun _ T=> ?_;refine st_actkeep T rfl rfl rfl (y_store1 T rfl ti22 rfl rfl rfl (H.blk 1 rfl) rfl) ?_;rintro w3 ⟨hb,E,_⟩;refine ⟨hH.same (E.mono fun _ _ h=>.inl h),?_⟩;replace hH:=hH.same (E.mono fun _ _ h=>.inl h);replace H:=H.setB 1 rfl hb E rfl;clear hb E;refine st_act T rfl rfl rfl (y_store1 T rfl ti33 rfl rfl rfl (H.blk 2 rfl) rfl) ?_;rintro w4 ⟨hb,E,_⟩;replace H:=H.setB 2 rfl hb E rfl;clear hb E
    replace T:=T.keep [3,10,9,7,5,0,1] rfl;clear Hu hH;refine ser_calm ?_;refine block_normal ?_;refine Sx.done_end ?_;refine done0 (fn:=Tryz.f37) T rfl  ?_;exact ⟨rfl,rfl,H.keep [1,2] rfl rfl⟩
  exfalso
  try simp only [bq] at hc4
  exact absurd hc4 (by decide)
end Go.Proofs.YtonnladboikmhaaGreatDoor
