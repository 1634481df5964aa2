/- Walks: the program's Parse. -/
import Derived.Test.YtonnladboikmhaaGreatDoorW10
import Derived.Test.YtonnladboikmhaaGreatDoorC5
set_option linter.unusedSimpArgs false
set_option linter.unusedVariables false
namespace Go.Proofs.YtonnladboikmhaaGreatDoor
namespace Tryz
end Tryz
open Go.Proofs.Tryz Go.Proofs.YtonnladboikmhaaGreatDoor.Tryz
open Sx
theorem Tryz.ti76:Sx.TI Tryz.prog 76 (.agg #[.int .i64 0,.slice none 0 0]) 2 32:=.mk' (by kernel_rfl)
theorem Tryz.bld76:Sx.Bld Tryz.prog 76 #[.int .i64 0,.slice none 0 0] #[(0,1),(1,1)]:=⟨_,_,_,_,ti76,rfl,underlying76,fun w=>by simp [Sx.placesOf,Sx.run_sizeOf ti22,Sx.run_sizeOf ti3]⟩
theorem Tryz.can8:Sx.Can Tryz.prog 8:=⟨_,func8,by kernel_rfl,rfl⟩
theorem Tryz.can14:Sx.Can Tryz.prog 14:=⟨_,func14,by kernel_rfl,rfl⟩
theorem Tryz.can39:Sx.Can Tryz.prog 39:=⟨_,func39,by kernel_rfl,rfl⟩
/-! texts whose lines are short -/
def NL (k:Nat) (s:Key):Prop:=∀ i,i + k < s.length→∃ j,i≤j∧j≤i + k∧s[j]? = some 10
theorem NL.short {k:Nat} {s:Key} (h:s.length≤k):NL k s:=fun i hi=>by omega
theorem NL.mono {k m:Nat} {s:Key} (h:NL k s) (hm:k≤m):NL m s:=fun i hi=>by
  obtain ⟨j,h1,h2,h3⟩:=h i (by omega)
  exact ⟨j,h1,by omega,h3⟩
theorem NL.take {k:Nat} {s:Key} (h:NL k s) (n:Nat):NL k (s.take n):=fun i hi=>by
  rw [List.length_take] at hi
  obtain ⟨j,h1,h2,h3⟩:=h i (by omega)
  exact ⟨j,h1,h2,by rw [List.getElem?_take,if_pos (by omega)];exact h3⟩
theorem NL.drop {k:Nat} {s:Key} (h:NL k s) (n:Nat):NL k (s.drop n):=fun i hi=>by
  rw [List.length_drop] at hi
  obtain ⟨j,h1,h2,h3⟩:=h (n + i) (by omega)
  exact ⟨j - n,by omega,by omega,by rw [List.getElem?_drop,show n + (j - n) = j from by omega];exact h3⟩
theorem NL.set {k:Nat} {s:Key} (h:NL k s) (at_:Nat) (x:UInt8):NL (2 * k + 1) (s.set at_ x):=fun i hi=>by
  rw [List.length_set] at hi
  rcases Nat.lt_or_ge (i + k) at_ with h4 | h4
  · obtain ⟨j,h1,h2,h3⟩:=h i (by omega)
    exact ⟨j,h1,by omega,by rw [List.getElem?_set_ne (by omega)];exact h3⟩
  rcases Nat.lt_or_ge at_ i with h5 | h5
  · obtain ⟨j,h1,h2,h3⟩:=h i (by omega)
    exact ⟨j,h1,by omega,by rw [List.getElem?_set_ne (by omega)];exact h3⟩
  obtain ⟨j,h1,h2,h3⟩:=h (i + k + 1) (by omega)
  exact ⟨j,by omega,by omega,by rw [List.getElem?_set_ne (by omega)];exact h3⟩
theorem NL.lin {k:Nat} {x r:Key} (hx:x.length≤k) (h:NL k r):NL k (lin x++r):=fun i hi=>by
  have hl:(Go.Proofs.YtonnladboikmhaaGreatDoor.lin x).length = x.length + 1:=by simp [Go.Proofs.YtonnladboikmhaaGreatDoor.lin]
  rw [List.length_append,hl] at hi
  rcases Nat.lt_or_ge x.length i with h4 | h4
  · obtain ⟨j,h1,h2,h3⟩:=h (i - (x.length + 1)) (by omega)
    exact ⟨j + (x.length + 1),by omega,by omega,by rw [List.getElem?_append_right (by omega),hl,Nat.add_sub_cancel];exact h3⟩
  exact ⟨x.length,h4,by omega,by rw [List.getElem?_append_left (by omega)];simp [Go.Proofs.YtonnladboikmhaaGreatDoor.lin]⟩
theorem NL.lines {k:Nat} {t:Key} (ht:t.length≤k):∀ {ls:List Key},(∀ x ∈ ls,x.length≤k)→NL k (ls.flatMap Go.Proofs.YtonnladboikmhaaGreatDoor.lin++t)
  | [],_=>NL.short ht
  | x :: ls,h=>by
    rw [List.flatMap_cons,List.append_assoc]
    exact NL.lin (h x (by simp)) (NL.lines ht fun y hy=>h y (by simp [hy]))
theorem cutN_at:∀ {s:Key} {j:Nat},s[j]? = some 10→(cutN s).1.length≤j
  | [],j,h=>by simp at h
  | c :: r,j,h=>by
    unfold cutN
    by_cases h1:c = 10
    · rw [if_pos h1];exact Nat.zero_le _
    rw [if_neg h1]
    cases j with
    | zero=>simp at h;exact absurd h h1
    | succ j=>
      have:=cutN_at (s:=r) (j:=j) (by simpa using h)
      simp only [List.length_cons]
      omega
theorem cutN_le:∀ s:Key,(cutN s).1.length≤s.length
  | []=>Nat.le_refl _
  | c :: r=>by
    unfold cutN
    split
    · exact Nat.zero_le _
    have:=cutN_le r
    simp only [List.length_cons]
    omega
theorem NL.cut {k:Nat} {s:Key} (h:NL k s):(cutN s).1.length≤k:=by
  rcases Nat.lt_or_ge k s.length with h1 | h1
  · obtain ⟨j,-,h3,h4⟩:=h 0 (by omega)
    have:=cutN_at h4
    omega
  have:=cutN_le s
  omega
theorem cutN_drop:∀ s:Key,∃ m,(cutN s).2 = s.drop m
  | []=>⟨0,rfl⟩
  | c :: r=>by
    unfold cutN
    split
    · exact ⟨1,rfl⟩
    obtain ⟨m,hm⟩:=cutN_drop r
    exact ⟨m + 1,by rw [List.drop_succ_cons];exact hm⟩
theorem NL.next {k:Nat} {s:Key} (h:NL k s):NL k (cutN s).2:=by
  obtain ⟨m,hm⟩:=cutN_drop s
  rw [hm]
  exact h.drop m
/-! what is lacking -/
theorem part_k {o:List Ep} {k:Int} {ls:List Key} (h:Part o k ls):0≤k∧k≤16∧(0 < k→∃ p e,o = p++[e]):=by
  rcases h with ⟨-,rfl,-⟩ | ⟨p,e,rfl,-,hh,h0,-⟩
  · exact ⟨by omega,by omega,fun h=>by omega⟩
  have:=hh.n1
  exact ⟨h0,by omega,fun _=>⟨p,e,rfl⟩⟩
theorem readg_k {b rest:Key} {o:List Ep × Int} {done:List Key} (h:Readg b rest o done):0≤o.2∧o.2≤16∧(0 < o.2→∃ p e,o.1 = p++[e]):=part_k (run_part done h.r)
theorem map_app1 {o:List En} {p:List Ep} {e:Ep} (h:o.map En.p = p++[e]):∃ A g,o = A++[g]:=by
  have hl:=congrArg List.length h
  simp only [List.length_map,List.length_append,List.length_singleton] at hl
  exact ⟨o.dropLast,o.getLast (fun h9=>by subst h9;simp at hl),(List.dropLast_concat_getLast _).symm⟩
theorem parseB_good (b:Key):Good (parseB b).1:=by
  unfold parseB
  split
  · rename_i h
    exact h.choose_spec.1
  exact ⟨fault_nil,fun x hx=>by cases hx⟩
theorem parseT_good (s:Key):Good (parseT s).1:=by
  unfold parseT
  split
  · split
    · exact parseB_good _
    exact ⟨fault_nil,fun x hx=>by cases hx⟩
  exact ⟨fault_nil,fun x hx=>by cases hx⟩
set_option maxHeartbeats 1600000 in
theorem LParse_calls (s:List UInt8) (hs:s.length≤1000000) (hnl:NL 30000 s) {w:World} (hE:Env2 w):Calls Tryz.prog 14 #[.string ⟨s.toArray⟩] w fun e w'=>∃ ad c l,e = .returned (.tuple #[.slice ad (List.length l) c,.int .i64 (parseT s).2])∧l.map En.p = (parseT s).1∧l.length≤s.length∧(∀ x ∈ l,x.ws.length≤s.length)∧Hp w No w' [cR 31 7 ad (l).length c ((l).flatMap En.cells),cF 53 4 En.rw (l)]:=by
  have RE:Ro w No Env2:=Ro.of fun w' x=>Env2.ext hE x;refine calls_into_d func14 rfl ntmps14 rfl fun _ T=> ?_;replace T:=T.keep [0] rfl;have H:Sx.Hp w (Sx.No) w []:=Sx.Hp.start _ _;refine sj (zz 0 [uu,uu]) rfl fun _ Q1=>?_;refine st_eff T rfl rfl rfl rfl (y_alloc T rfl ti22 rfl _) ?_;clear T;rintro _ w1 ⟨b1,rfl,N⟩ a T;replace H:=H.new N;clear N;refine st_eff T rfl rfl rfl rfl (y_alloc T rfl ti33 rfl _) ?_;clear T;rintro _ w2 ⟨b2,rfl,N⟩ a T;replace H:=H.new N;clear N;revert Q1 T;refine rg [3,2,0] (zz 0 [tt,uu]) rfl fun _ Q2 T=>?_;refine tk T rfl (x_makeFunc T rfl rfl) fun _ T=> ?_;refine st_defer T rfl rfl rfl rfl rfl fun _ T=> ?_;revert Q2 T;refine rg [3,2,0] (zz 0 [tt,uu,tt]) rfl fun _ Q3 T=>?_;refine bd T bld76 rfl fun _ T=> ?_;refine st_eff T rfl rfl rfl rfl (y_box T rfl rfl rfl _) ?_;clear T;rintro _ w3 ⟨b3,rfl,N⟩ a T;replace H:=H.new N;clear N;refine asn T rfl fun _ T=> ?_;revert Q3 T;refine rq [4,3,2,0] rfl fun _ Q4 T=>?_;refine sj (zz 0 [tt,uu,tt]) rfl fun _ Q5=>?_;refine mv T rfl fun _ T=> ?_;refine st_callE T rfl rfl rfl rfl rfl can38 rfl (cutl_calls s (by omega) _ (RE.at H.ext).e) ?_;rintro _ w4 (⟨htl,hpt,rfl,E⟩ | ⟨c9,rfl,hc9,hpt,E⟩)
  rotate_left
  · skip
    refine .inr ⟨_,rfl,?_⟩;replace H:=H.pure E;clear E;refine then_panic ?_;refine then_panic ?_;refine Sx.door1 T.defers (by simp) can37 ?_;refine (caught_calls b1 b2 c9 (H.pre [2,1] rfl rfl)).mono ?_;rintro _ _ w9 ⟨rfl,rfl,K⟩;replace H:=H.back [2,1] [0] rfl rfl rfl K rfl;clear K;refine Sx.out1 rfl (.cell (T.get 2 _ rfl) (Sx.run_res1 fl22 ((H.blk 0 rfl).nth (j:=0) rfl))) (.cell (T.get 3 _ rfl) (Sx.run_res1 fl33 ((H.blk 1 rfl).nth (j:=0) rfl))) ?_;have hp9:parseT s = ([],c9):=hpt;rw [hp9];exact ⟨none,0,[],rfl,rfl,Nat.zero_le _,(fun x hx=>by cases hx),((H.keep [] rfl rfl).famNil (α:=En) 53 4 En.rw).nilR 31 7⟩
  refine .inl ⟨_,rfl,?_⟩;clear T;intro a T;replace H:=H.pure E;clear E;have hbe:=ahead_ended htl;have hbn:NL 30000 (aheadT s):=hnl.take _;have hbl:(aheadT s).length≤s.length:=by unfold aheadT;rw [List.length_take];omega
  obtain ⟨b,hb⟩:∃ b,aheadT s = b:=⟨_,rfl⟩;rw [hb] at T hpt hbe hbn hbl;refine asn T rfl fun _ T=> ?_;revert Q5 T;refine rp [5,4,3,2,0] rfl fun T=>?_;refine wp_block ?_;replace H:=(H.nilR 31 7).famNil (α:=En) 53 4 En.rw;refine wp_loopH (G:=Key × List En × Int × Option Addr × Nat × List Key) (fun ⟨rest,o,k,ad2,c2,dn⟩=>[(5,.string ⟨rest.toArray⟩)]) (fun ⟨rest,o,k,ad2,c2,dn⟩=>[cB b3 [.int .i64 k,.slice ad2 (o).length c2] 76,cR 31 7 ad2 (o).length c2 ((o).flatMap En.cells),cF 53 4 En.rw (o)]) (fun ⟨rest,o,k,ad2,c2,dn⟩=>Readg b rest (o.map En.p,k) dn∧NL 30000 rest∧o.length + rest.length≤s.length∧∀ x ∈ o,x.ws.length + rest.length≤s.length) (fun ⟨rest,o,k,ad2,c2,dn⟩=>rest.length) (b,[],0,none,0,[]) (T.keep [5,4,3,2,0] rfl) (H.keep [2,1,0,3,4] rfl rfl) (⟨Readg.start hbe,hbn,by simpa using hbl,fun x hx=>by cases hx⟩) ?_;clear T H;rintro ⟨rest,o,k,ad2,c2,dn⟩ a w5 hJ T H;replace T:=T.keep [5,4,3,2,0] rfl;replace H:=H.keep [0,1,2,3,4] rfl rfl;obtain ⟨hrd,hrn,hol,hxl⟩:=hJ;have hxl2:∀ x ∈ o,x.ws.length≤s.length:=fun x hx=>by have:=hxl x hx;omega
  refine wp_seq_k fun _ Q6=>?_;refine sj (zz 0 [tt,tt]) rfl fun _ Q7=>?_;refine mv T rfl fun _ T=> tsn T rfl fun _ T=> ?_;revert Q7 T;refine rif [15,5,4,3,2,0] rfl (fun T hc8=>?_) (fun T hc8=>?_)
  · try simp only [bq] at hc8
    have hne:rest ≠ []:=hc8;have hlt9:=cutN_len rest hne;obtain ⟨hk0,hk16,hka⟩:=readg_k hrd;have hk0:0≤k:=hk0;have hk16:k≤16:=hk16;refine wp_skip ?_;refine then_normal (Q6 _ _ ?_);clear Q6;refine wp_block ?_;refine sj (zz 0 [tt,uu,tt,tt,tt,tt,tt,tt,tt]) rfl fun _ Q9=>?_;refine mv T rfl fun _ T=> ?_;refine st_call T rfl rfl rfl rfl rfl can39 rfl (Cut_calls rest (by omega) _ (RE.at H.ext)) ?_;rintro _ w6 ⟨q9,rfl,E⟩;refine ⟨_,rfl,?_⟩;clear T;intro a T;replace H:=H.pure E;clear E;refine mv T rfl fun _ T=> xt T rfl fun _ T=> xt T rfl fun _ T=> xt T rfl fun _ T=> asn T rfl fun _ T=> asn T rfl fun _ T=> asn T rfl fun _ T=> ?_;revert Q9 T;refine rq [7,6,15,5,4,3,2,0] rfl fun _ Q10 T=>?_;refine sj (zz 0 [tt,tt,tt,uu,tt]) rfl fun _ Q11=>?_
    refine mv T rfl fun _ T=> nck T rfl fun _ T=> fad T fa76_0 rfl fun _ T=> tld T fl3 (H.blk 0 rfl) rfl fun _ T=> tgt T rfl fun _ T=> ?_;revert Q11 T;refine rif [26,7,6,15,5,4,3,2,0] rfl (fun T hc12=>?_) (fun T hc12=>?_)
    · try simp only [bq] at hc12
      have hk9:0 < k:=hc12;obtain ⟨p9,e9,ho9⟩:=hka hk9;obtain ⟨A,g,rfl⟩:=map_app1 ho9;have hAl:(A++[g]).length = A.length + 1:=by simp
      have hgl:=hxl g (by simp);refine wp_text (zz 0 [tt,tt,uu]) rfl ?_;refine mv T rfl fun _ T=> mv T rfl fun _ T=> ?_;refine st_callE T rfl rfl rfl rfl rfl can40 rfl (write_calls b3 k ⟨by omega,by omega⟩ (cutN rest).1 hrn.cut (by omega) (by omega) (H.pre [0,1,2] rfl rfl) (H.ro RE [0,1,2] rfl)) ?_;rintro _ w7 (⟨ad5,c5,wt,rfl,hw9,hx9,K⟩ | ⟨rfl,hbad,K⟩)
      rotate_left
      · skip
        refine .inr ⟨_,rfl,?_⟩;replace H:=H.back [0,1,2] [3,4] rfl rfl rfl K rfl;clear K;refine then_panic ?_;refine block_panic ?_;refine then_panic ?_;refine block_panic ?_;refine then_panic ?_;refine Sx.door1 T.defers (by simp) can37 ?_;refine (caught_calls b1 b2 4 (H.pre [1,0] rfl rfl)).mono ?_;rintro _ _ w9 ⟨rfl,rfl,K⟩;replace H:=H.back [1,0] [] rfl rfl rfl K rfl;clear K;refine Sx.out1 rfl (.cell (T.get 2 _ rfl) (Sx.run_res1 fl22 ((H.blk 0 rfl).nth (j:=0) rfl))) (.cell (T.get 3 _ rfl) (Sx.run_res1 fl33 ((H.blk 1 rfl).nth (j:=0) rfl))) ?_;have hp9:parseT s = ([],4):=hpt.trans (hrd.bad hne (step_write_no hk9 hbad));rw [hp9];exact ⟨none,0,[],rfl,rfl,Nat.zero_le _,(fun x hx=>by cases hx),((H.keep [] rfl rfl).famNil (α:=En) 53 4 En.rw).nilR 31 7⟩
      refine .inl ⟨_,rfl,?_⟩;clear T;intro a T;replace H:=H.back [0,1,2] [3,4] rfl rfl rfl K rfl;clear K;revert Q10 T;refine rp [26,7,6,15,5,4,3,2,0] rfl fun T=>?_;refine wp_text (zz 0 [tt,tt]) rfl ?_;refine mv T rfl fun _ T=> asn T rfl fun _ T=> ?_;replace T:=T.keep [5,26,7,6,15,4,3,2,0] rfl;refine ser_nil ?_;refine block_normal ?_;refine then_normal ?_;exact ⟨((cutN rest).2,A++[(⟨g.t,g.s,ad5,c5,g.ws++[wt]⟩:En)],k - 1,ad2,c2,dn++[(cutN rest).1]),⟨by
          have h7:=hrd.next hne (step_write hk9 hw9 hx9);rw [show (A++[g]).map En.p = A.map En.p++[g.p] from by simp,addW_snoc] at h7
          simpa [En.p] using h7,hrn.next,by simp only [List.length_append,List.length_singleton] at hol ⊢;omega,fun x hx=>by
          rcases List.mem_append.1 hx with h7 | h7
          · have:=hxl x (by simp [h7]);omega
          rw [List.mem_singleton] at h7;subst h7;show (g.ws++[wt]).length + _≤_;rw [List.length_append,List.length_singleton];omega⟩,(T.keep [5,4,3,2,0] rfl),(H.keep [0,1,2,3,4] rfl rfl),hlt9⟩
    try simp only [bq] at hc12
    have hk9:k≤0:=hc12;refine wp_text (zz 0 [tt,tt,uu]) rfl ?_;refine mv T rfl fun _ T=> mv T rfl fun _ T=> ?_;refine st_callE T rfl rfl rfl rfl rfl can41 rfl (entry_calls b3 k (cutN rest).1 hrn.cut (by omega) (H.pre [0,1,2] rfl rfl) (H.ro RE [0,1,2] rfl)) ?_;rintro _ w8 (⟨ad5,c5,t9,x9,n9,rfl,hw9,hx9,K⟩ | ⟨rfl,hbad,K⟩)
    rotate_left
    · skip
      refine .inr ⟨_,rfl,?_⟩;replace H:=H.back [0,1,2] [3,4] rfl rfl rfl K rfl;clear K;refine then_panic ?_;refine block_panic ?_;refine then_panic ?_;refine block_panic ?_;refine then_panic ?_;refine Sx.door1 T.defers (by simp) can37 ?_;refine (caught_calls b1 b2 4 (H.pre [1,0] rfl rfl)).mono ?_;rintro _ _ w9 ⟨rfl,rfl,K⟩;replace H:=H.back [1,0] [] rfl rfl rfl K rfl;clear K;refine Sx.out1 rfl (.cell (T.get 2 _ rfl) (Sx.run_res1 fl22 ((H.blk 0 rfl).nth (j:=0) rfl))) (.cell (T.get 3 _ rfl) (Sx.run_res1 fl33 ((H.blk 1 rfl).nth (j:=0) rfl))) ?_;have hp9:parseT s = ([],4):=hpt.trans (hrd.bad hne (step_head_no (by omega) hbad));rw [hp9];exact ⟨none,0,[],rfl,rfl,Nat.zero_le _,(fun x hx=>by cases hx),((H.keep [] rfl rfl).famNil (α:=En) 53 4 En.rw).nilR 31 7⟩
    refine .inl ⟨_,rfl,?_⟩;clear T;intro a T;replace H:=H.back [0,1,2] [3,4] rfl rfl rfl K rfl;clear K;revert Q10 T;refine rp [26,7,6,15,5,4,3,2,0] rfl fun T=>?_;refine wp_text (zz 0 [tt,tt]) rfl ?_;refine mv T rfl fun _ T=> asn T rfl fun _ T=> ?_;replace T:=T.keep [5,26,7,6,15,4,3,2,0] rfl;refine ser_nil ?_;refine block_normal ?_;refine then_normal ?_;exact ⟨((cutN rest).2,o++[(⟨t9,x9,none,0,[]⟩:En)],n9,ad5,c5,dn++[(cutN rest).1]),⟨by
        have h7:=hrd.next hne (step_head (by omega) hw9 hx9)
        simpa [En.p] using h7,hrn.next,by simp only [List.length_append,List.length_singleton] at hol ⊢;omega,fun x hx=>by
        rcases List.mem_append.1 hx with h7 | h7
        · have:=hxl x h7;omega
        rw [List.mem_singleton] at h7;subst h7;show 0 + _≤_;omega⟩,(T.keep [5,4,3,2,0] rfl),(H.keep [0,1,2,3,4] rfl rfl),hlt9⟩
  try simp only [bq] at hc8
  have hre:rest = []:=hc8;subst hre;refine wp_exit <| then_exit ?_;refine then_exit <| block_exit ?_;revert Q4;refine nx fun _ Q13=>?_;refine wp_text (zz 0 [tt,tt,tt,uu,tt,uu]) rfl ?_;refine mv T rfl fun _ T=> nck T rfl fun _ T=> fad T fa76_0 rfl fun _ T=> tld T fl3 (H.blk 0 rfl) rfl fun _ T=> teq T rfl fun _ T=> ?_;refine st_callE T rfl rfl rfl rfl rfl can42 rfl (need_calls _ 4 _) ?_;rintro _ w9 (⟨hn9,rfl,E⟩ | ⟨hn9,rfl,E⟩)
  rotate_left
  · skip
    try simp only [bq] at hn9
    refine .inr ⟨_,rfl,?_⟩;replace H:=H.pure E;clear E;refine then_panic ?_;refine Sx.door1 T.defers (by simp) can37 ?_;refine (caught_calls b1 b2 4 (H.pre [4,3] rfl rfl)).mono ?_;rintro _ _ w9 ⟨rfl,rfl,K⟩;replace H:=H.back [4,3] [0,1,2] rfl rfl rfl K rfl;clear K;refine Sx.out1 rfl (.cell (T.get 2 _ rfl) (Sx.run_res1 fl22 ((H.blk 0 rfl).nth (j:=0) rfl))) (.cell (T.get 3 _ rfl) (Sx.run_res1 fl33 ((H.blk 1 rfl).nth (j:=0) rfl))) ?_;have hp9:parseT s = ([],4):=hpt.trans ((hrd.end_).trans (if_neg hn9));rw [hp9];exact ⟨none,0,[],rfl,rfl,Nat.zero_le _,(fun x hx=>by cases hx),((H.keep [] rfl rfl).famNil (α:=En) 53 4 En.rw).nilR 31 7⟩
  try simp only [bq] at hn9
  refine .inl ⟨_,rfl,?_⟩;clear T;intro a T;replace H:=H.pure E;clear E;revert Q13 T;refine rg [15,5,4,3,2,0] (zz 0 [tt,tt,tt,uu,uu,uu]) rfl fun _ Q14 T=>?_;refine mv T rfl fun _ T=> nck T rfl fun _ T=> fad T fa76_1 rfl fun _ T=> tld T fl22 (H.blk 0 rfl) rfl fun _ T=> ?_;refine st_act T rfl rfl rfl (y_store1 T rfl ti22 rfl rfl rfl (H.blk 4 rfl) rfl) ?_;rintro w10 ⟨hb,E,_⟩;replace H:=H.setB 4 rfl hb E rfl;clear hb E;refine st_act T rfl rfl rfl (y_store1 T rfl ti33 rfl rfl rfl (H.blk 3 rfl) rfl) ?_;rintro w11 ⟨hb,E,_⟩;replace H:=H.setB 3 rfl hb E rfl;clear hb E;revert Q14 T;refine rp [15,5,4,3,2,0] rfl fun T=>?_;refine wp_ret ?_;refine Sx.door1 T.defers (by simp) can37 ?_;refine (idle_calls b1 b2 _).mono ?_;rintro _ _ w9 ⟨rfl,rfl,E⟩;replace H:=H.pure E;clear E;refine Sx.out1 rfl (.cell (T.get 2 _ rfl) (Sx.run_res1 fl22 ((H.blk 4 rfl).nth (j:=0) rfl))) (.cell (T.get 3 _ rfl) (Sx.run_res1 fl33 ((H.blk 3 rfl).nth (j:=0) rfl))) ?_;have hp9:parseT s = (o.map En.p,0):=hpt.trans ((hrd.end_).trans (if_pos hn9))
  rw [hp9];exact ⟨ad2,c2,o,rfl,rfl,by omega,hxl2,H.keep [1,2] rfl rfl⟩
/-! a printed text is read back -/
theorem lines_ended:∀ ls:List Key,ended (ls.flatMap lin):=fun ls=>by
  induction h:ls.length generalizing ls with
  | zero=>rw [List.eq_nil_of_length_eq_zero h];exact .inl rfl
  | succ n ih=>
    obtain ⟨m,x,rfl⟩:∃ m x,ls = m++[x]:=⟨ls.dropLast,ls.getLast (by intro h9;subst h9;simp at h),(List.dropLast_concat_getLast _).symm⟩
    right
    rw [List.flatMap_append,List.flatMap_cons,List.flatMap_nil,List.append_nil]
    unfold lin
    rw [← List.append_assoc]
    simp
theorem hex8_len (n:Nat):(hex8 n).length = 8:=rfl
theorem hexd_hex:∀ k < 16,hexB (hexd.getD k 0) = true:=by decide
theorem hex8_all (n:Nat):(hex8 n).all hexB = true:=by
  unfold hex8
  simp only [List.all_cons,List.all_nil,Bool.and_true,hexd_hex _ (Nat.mod_lt _ (by decide:16 > 0)),Bool.and_self]
theorem parseT_text {l:List Ep} (h:Good l):parseT (textT l) = (l,0):=by
  have hl:(textT l).length = (bodyT l).length + 11:=by
    unfold textT sumT
    simp [hex8_len]
  obtain ⟨n,hn⟩:∃ n,(bodyT l).length = n:=⟨_,rfl⟩
  rw [hn] at hl
  have ha:aheadT (textT l) = bodyT l:=by
    unfold aheadT
    rw [hl,show n + 11 - 11 = n from by omega]
    unfold textT
    rw [← hn,List.take_left]
  have hd:(textT l).drop n = sumT (bodyT l)++[10]:=by
    unfold textT
    rw [← hn,List.drop_left]
  have hs:(sumT (bodyT l)).length = 10:=rfl
  have hsum:((textT l).drop ((textT l).length - 11)).take 10 = sumT (aheadT (textT l)):=by
    rw [ha,hl,show n + 11 - 11 = n from by omega,hd,← hs,List.take_left]
  have ht:tailOk (textT l):=by
    rw [tail_iff hl]
    have e1:((textT l).take (n + 2)).drop n = ((textT l).drop n).take 2:=by rw [List.drop_take,show n + 2 - n = 2 from by omega]
    have e2:((textT l).take (n + 10)).drop (n + 2) = ((textT l).drop (n + 2)).take 8:=by rw [List.drop_take,show n + 10 - (n + 2) = 8 from by omega]
    refine ⟨?_,by rw [e1,hd];rfl,?_,?_⟩
    · rcases lines_ended (linesL l) with h1 | h1
      · left
        rw [← hn]
        unfold bodyT
        rw [h1]
        rfl
      right
      have h2:(bodyT l)[n - 1]? = some 10:=by rw [← hn];exact h1
      unfold textT
      rw [List.getElem?_append_left (by have:=(List.getElem?_eq_some_iff.1 h2).1;omega)]
      exact h2
    · rw [e2,← List.drop_drop,hd]
      show ((hex8 (crc (bodyT l))++[10]).take 8).all hexB = true
      rw [← hex8_len (crc (bodyT l)),List.take_left]
      exact hex8_all _
    have h1:=congrArg (fun q:Key=>q[10]?) hd
    simp only [List.getElem?_drop] at h1
    rw [h1,List.getElem?_append_right (by omega),hs]
    rfl
  rw [parse_tB ht hsum,ha]
  exact parseB_of h rfl
/-! the chapter's example -/
def fw1:Wt:=⟨[97],⟨1,4607182418800017408,[]⟩⟩
def fw2:Wt:=⟨[98],⟨0,0,[]⟩⟩
def e1:Ep:=⟨⟨1,1,1⟩,⟨5,0,1⟩,[fw1,fw2]⟩
theorem good_e1:Good [e1]:=⟨by decide +kernel,fun x hx=>by
  rw [List.mem_singleton] at hx
  subst hx
  refine ⟨by unfold inInt e1;decide,fun w hw=>?_⟩
  rcases List.mem_cons.1 hw with rfl | hw
  · decide
  rw [List.mem_singleton] at hw
  subst hw
  decide⟩
theorem print_e1:printL [e1] = (textT [e1],0):=by
  unfold printL
  rw [if_pos good_e1.ok]
theorem text_len:(textT [e1]).length = 43:=by decide +kernel
theorem text_take:(textT [e1]).take 34 = [64,32,53,46,48,46,49,32,49,46,49,46,49,32,50,10,43,32,34,97,34,32,49,112,48,10,45,32,34,98,34,10,46,32]:=by decide +kernel
theorem body_e1:(bodyT [e1]).length≤50000000:=by decide +kernel
theorem print_nil:printL [] = ([46,32,48,48,48,48,48,48,48,48,10],0):=by decide +kernel
theorem parse_nil:parseT [] = ([],5):=parse_t5 (fun h=>by have:=tail_len h;simp at this)
def fE (ad:Option Addr):En:=⟨⟨1,1,1⟩,⟨5,0,1⟩,ad,2,[fw1,fw2]⟩
/-! what weighs little prints short -/
theorem ww_le {m:Nat}:∀ (l:List Wt) (n:Nat),wwF m l n≤m→n + sumN (fun x=>1 + x.key.length + x.v.tx.length) l≤wwF m l n
  | [],n,h=>by simp [wwF,sumN]
  | x :: r,n,h=>by
    unfold wwF at h ⊢
    split at h
    · rename_i hn
      rw [if_pos hn]
      have h1:=ww_le r _ h
      have h3:few2F (few2F n (1 + x.key.length) m) x.v.tx.length m≤m:=by omega
      have h4:=few2_le h3
      have h6:=few2_le (show few2F n (1 + x.key.length) m≤m by omega)
      simp only [sumN]
      omega
    omega
theorem flat_sum {α:Type} (f:α→Key) (g:α→Nat):∀ {l:List α},(∀ x ∈ l,(f x).length≤g x)→(l.flatMap f).length≤sumN g l
  | [],_=>Nat.le_refl _
  | x :: l,h=>by
    rw [List.flatMap_cons,List.length_append]
    have h1:=h x (by simp)
    have h2:=flat_sum f g (l:=l) fun y hy=>h y (by simp [hy])
    simp only [sumN]
    omega
theorem sumN_mul {α:Type} {f:α→Nat} (k c:Nat):∀ l:List α,sumN (fun x=>k * f x + c) l = k * sumN f l + c * l.length
  | []=>by simp [sumN]
  | x :: l=>by
    simp only [sumN,sumN_mul k c l,List.length_cons,Nat.mul_add,Nat.mul_one]
    omega
theorem wrT_le (w:Wt):(wrT w).length≤3 * (w.key.length + w.v.tx.length) + 100:=by
  have h1:=quote_le w.key
  have h2:=printV_le (v:=w.v) (n:=w.v.tx.length) (Nat.le_refl _)
  unfold wrT
  split
  · simp only [List.length_cons];omega
  simp only [List.length_cons,List.length_append];omega
theorem hdT_le {t:Tn} {s:Stp} {n:Int} (hs:inS s) (ht:inT t) (hn:inInt n):(hdT t s n).length≤200:=by
  have h1:=stpT_len hs
  have h2:=tnT_len ht
  have h3:=itoa_len n hn.1 hn.2
  unfold hdT
  simp only [List.length_cons,List.length_append]
  omega
structure FewE (l:List En):Prop where
  n:l.length≤100
  w:sumN (fun x=>wwF 20000 x.ws 0) l≤20000
theorem FewE.mem {l:List En} (h:FewE l) {x:En} (hx:x ∈ l):x.ws.length≤20000∧∀ y ∈ x.ws,y.key.length≤20000∧y.v.tx.length≤20000:=by
  have h1:=sumN_mem (f:=fun x:En=>wwF 20000 x.ws 0) hx
  have h2:=h.w
  obtain ⟨h3,h4⟩:=ww_facts x.ws 0 (m:=20000) (by omega)
  exact ⟨by omega,h4⟩
theorem FewE.body {l:List En} (h:FewE l) (hb:∀ x ∈ l,inS x.s∧inT x.t):(bodyT (l.map En.p)).length≤5000000:=by
  have e:bodyT (l.map En.p) = l.flatMap fun x=>(linesE x.p).flatMap lin:=by
    unfold bodyT linesL
    rw [List.flatMap_assoc,List.flatMap_map]
  rw [e]
  have h1:∀ x ∈ l,((linesE x.p).flatMap lin).length≤104 * wwF 20000 x.ws 0 + 201:=fun x hx=>by
    obtain ⟨hl,-⟩:=h.mem hx
    obtain ⟨b1,b2⟩:=hb x hx
    have hw:=sumN_mem (f:=fun x:En=>wwF 20000 x.ws 0) hx
    have hw2:=h.w
    have hd:=hdT_le (n:=(x.ws.length:Int)) b1 b2 (by unfold inInt;omega)
    have hf:((x.ws.map wrT).flatMap lin).length≤sumN (fun w:Wt=>104 * (1 + w.key.length + w.v.tx.length)) x.ws:=by
      rw [List.flatMap_map]
      refine flat_sum _ _ fun w hw=>?_
      have:=wrT_le w
      unfold lin
      simp only [List.length_append,List.length_singleton]
      omega
    have hm:sumN (fun w:Wt=>104 * (1 + w.key.length + w.v.tx.length)) x.ws = 104 * sumN (fun w:Wt=>1 + w.key.length + w.v.tx.length) x.ws:=by
      have:=sumN_mul (f:=fun w:Wt=>1 + w.key.length + w.v.tx.length) 104 0 x.ws
      simpa using this
    have hge2:sumN (fun w:Wt=>1 + w.key.length + w.v.tx.length) x.ws≤wwF 20000 x.ws 0:=by have:=ww_le x.ws 0 (m:=20000) (by omega);omega
    show ((hdT x.t x.s x.ws.length :: x.ws.map wrT).flatMap lin).length≤_
    rw [List.flatMap_cons,List.length_append]
    have:(lin (hdT x.t x.s x.ws.length)).length = (hdT x.t x.s x.ws.length).length + 1:=by simp [lin]
    omega
  have h2:=flat_sum (fun x:En=>(linesE x.p).flatMap lin) (fun x=>104 * wwF 20000 x.ws 0 + 201) h1
  rw [sumN_mul] at h2
  have h3:=h.n
  have h4:=h.w
  omega
theorem fE_in (ad:Option Addr):inS (fE ad).s∧inT (fE ad).t:=⟨by show inS ⟨5,0,1⟩;unfold inS inInt;decide,by show inT ⟨1,1,1⟩;unfold inT inInt;decide⟩
theorem one_of {l:List En} (h:l.map En.p = [e1]):∃ g,l = [g]∧g.ws = [fw1,fw2]:=by
  have hl:=congrArg List.length h
  rw [List.length_map] at hl
  obtain ⟨a,rfl⟩:=List.length_eq_one_iff.1 hl
  have h9:a.p = e1:=by simpa using h
  exact ⟨a,rfl,congrArg Ep.ws h9⟩
theorem first_calls (w:World) (hE:Env2 w):Calls Tryz.prog 8 #[] w fun e w'=>e = .returned (.bool true)∧Ext No w w':=by
  show Calls Tryz.prog 8 ([]:List Value).toArray w _
  have RE:Ro w No Env2:=Ro.of fun w' x=>Env2.ext hE x;refine calls_into func8 rfl ntmps8 rfl fun _ T=> ?_;replace T:=T.keep [] rfl;have H:Sx.Hp w (Sx.No) w []:=Sx.Hp.start _ _;refine sj (zz 0 [tt]) rfl fun _ Q1=>?_;refine asn T rfl fun _ T=> ?_;revert Q1 T;refine rg [0] (zz 0 [uu,tt,tt,tt,tt,tt]) rfl fun _ Q2 T=>?_;refine cal T H can11 rfl (PrintL_calls (ad:=none) (c:=0) [] (Ss.nil _ En.cells 7) (fun x hx=>by cases hx) (by decide) (by decide +kernel) (RE.at H.ext).e) fun w1 H _ T=> ?_;rw [show (printL (([]:List En).map En.p)).1 = [46,32,48,48,48,48,48,48,48,48,10] from congrArg Prod.fst print_nil,show (printL (([]:List En).map En.p)).2 = 0 from congrArg Prod.snd print_nil] at T;refine mv T rfl fun _ T=> xt T rfl fun _ T=> xt T rfl fun _ T=> asn T rfl fun _ T=> asn T rfl fun _ T=> ?_
  revert Q2 T;refine rg [2,1,0] (zz 0 [tt,tt,tt,tt,tt,uu,tt,uu,uu,tt,tt,tt,tt,tt]) rfl fun _ Q3 T=>?_;refine bd T bld26 rfl fun _ T=> bd T bld28 rfl fun _ T=> bd T bld51 rfl fun _ T=> bd T bld53 rfl fun _ T=> bd T bld53 rfl fun _ T=> ?_;refine st_eff T rfl rfl rfl rfl (x_bldS T rfl underlying29 ti53 rfl rfl rfl rfl rfl rfl rfl _) ?_;clear T;rintro _ w2 ⟨b1,rfl,N⟩ a T;replace H:=H.new N;clear N;refine bd T bld31 rfl fun _ T=> ?_;refine st_eff T rfl rfl rfl rfl (y_slice1 T rfl underlying22 ti31 rfl rfl rfl rfl rfl rfl _) ?_;clear T;rintro _ w3 ⟨b2,rfl,N⟩ a T;replace H:=H.new N;clear N;refine cal T H can11 rfl (PrintL_calls [(fE (some ⟨b1,0,none⟩))] (Blk.svn (m:=1) (sz:=7) (H.blk 0 rfl) rfl) (fun x hx=>by rw [List.mem_singleton] at hx;subst hx;exact ⟨(Blk.svn (m:=2) (sz:=4) (H.blk 1 rfl) rfl:Ss _ _ Wt.cells 4 [fw1,fw2]),(by decide:2≤1000000),(fE_in _).1,(fE_in _).2,(fun y hy=>by rcases List.mem_cons.1 hy with rfl | hy;exact (by decide);rw [List.mem_singleton] at hy;subst hy;exact (by decide))⟩) (by show 1≤_;decide) body_e1 (RE.at H.ext).e) fun w4 H _ T=> ?_;rw [show (printL ([(fE (some ⟨b1,0,none⟩))].map En.p)).1 = textT [e1] from congrArg Prod.fst print_e1,show (printL ([(fE (some ⟨b1,0,none⟩))].map En.p)).2 = 0 from congrArg Prod.snd print_e1] at T;obtain ⟨tx,htx⟩:∃ tx,textT [e1] = tx:=⟨_,rfl⟩;have htl:=text_len;have htk:=text_take;have htp:=parseT_text good_e1;rw [htx] at T htl htk htp;refine mv T rfl fun _ T=> xt T rfl fun _ T=> xt T rfl fun _ T=> asn T rfl fun _ T=> asn T rfl fun _ T=> ?_;revert Q3 T;refine rg [4,3,2,1,0] (zz 0 [tt,uu,tt,tt,tt,tt,tt]) rfl fun _ Q4 T=>?_;refine mv T rfl fun _ T=> ?_;refine st_call T rfl rfl rfl rfl rfl can14 rfl (LParse_calls tx (by omega) (NL.short (by omega)) (RE.at H.ext)) ?_;rintro _ w5 ⟨ad3,c3,l3,rfl,hl3,-,-,K⟩;refine ⟨_,rfl,?_⟩;clear T;intro a T;replace H:=H.more K rfl;clear K;rw [show (parseT tx).2 = 0 from congrArg Prod.snd htp] at T
  obtain ⟨g3,rfl,hg3⟩:=one_of (hl3.trans (congrArg Prod.fst htp));refine mv T rfl fun _ T=> xt T rfl fun _ T=> xt T rfl fun _ T=> asn T rfl fun _ T=> asn T rfl fun _ T=> ?_;revert Q4 T;refine rg [6,5,4,3,2,1,0] (zz 0 [uu,tt,tt,tt,tt,tt]) rfl fun _ Q5 T=>?_;refine st_call T rfl rfl rfl rfl rfl can14 rfl (LParse_calls [] (by decide) (NL.short (by decide)) (RE.at H.ext)) ?_;rintro _ w6 ⟨ad4,c4,l4,rfl,hl4,-,-,K⟩;refine ⟨_,rfl,?_⟩;clear T;intro a T;replace H:=H.more K rfl;clear K;rw [show (parseT []).2 = 5 from congrArg Prod.snd parse_nil] at T;refine mv T rfl fun _ T=> xt T rfl fun _ T=> xt T rfl fun _ T=> asn T rfl fun _ T=> asn T rfl fun _ T=> ?_;revert Q5 T
  refine rg [8,6,5,4,3,2,1,0] (zz 0 [tt]) rfl fun _ Q6 T=>?_;refine asn T rfl fun _ T=> ?_;revert Q6 T;refine rg [9,8,6,5,4,3,2,1,0] (zz 0 [tt,tt,tt,tt,tt,tt,tt,tt,tt,tt,tt,tt,tt,tt,tt,tt,tt,tt,tt,tt,tt,tt,tt,tt,tt,tt,tt,tt,tt,tt,tt,tt,tt,tt,tt,tt,tt,tt,tt,uu,tt,tt,tt,tt,tt,tt,tt,tt]) rfl fun _ Q7 T=>?_;refine mv T rfl fun _ T=> tse T rfl fun _ T=> mv T rfl fun _ T=> ?_;refine Sl.two T 37 rfl (fun hc8 T=>?_) (fun hc8 T=>?_)
  · try simp only [bq] at hc8
    refine mv T rfl fun _ T=> teq T rfl fun _ T=> pt T rfl fun _ T=> mv T rfl fun _ T=> ?_;refine Sl.two T 41 rfl (fun hc9 T=>?_) (fun hc9 T=>?_)
    · try simp only [bq] at hc9
      refine mv T rfl fun _ T=> teq T rfl fun _ T=> pt T rfl fun _ T=> mv T rfl fun _ T=> ?_;refine Sl.two T 45 rfl (fun hc10 T=>?_) (fun hc10 T=>?_)
      · try simp only [bq] at hc10
        refine mv T rfl fun _ T=> tls T underlying9 rfl fun _ T=> mv T rfl fun _ T=> tls T underlying9 rfl fun _ T=> ?_;rw [show (([64,32,53,46,48,46,49,32,49,46,49,46,49,32,50,10,43,32,34,97,34,32,49,112,48,10,45,32,34,98,34,10,46,32]:List UInt8).length:Int) = 34 from rfl] at T;refine tad T rfl (by omega) fun _ T=> teq T rfl fun _ T=> pt T rfl fun _ T=> mv T rfl fun _ T=> ?_;refine Sl.two T 53 rfl (fun hc11 T=>?_) (fun hc11 T=>?_)
        · try simp only [bq] at hc11
          refine mv T rfl fun _ T=> mv T rfl fun _ T=> tls T underlying9 rfl fun _ T=> ?_;rw [show (([64,32,53,46,48,46,49,32,49,46,49,46,49,32,50,10,43,32,34,97,34,32,49,112,48,10,45,32,34,98,34,10,46,32]:List UInt8).length:Int) = 34 from rfl] at T;refine tk T rfl (x_sliceStr_h (q:=34) T rfl underlying9 rfl rfl (by omega) (by omega)) fun _ T=> mv T rfl fun _ T=> tse T rfl fun _ T=> pt T rfl fun _ T=> mv T rfl fun _ T=> ?_;refine Sl.two T 61 rfl (fun hc12 T=>?_) (fun hc12 T=>?_)
          · try simp only [bq] at hc12
            refine mv T rfl fun _ T=> teq T rfl fun _ T=> pt T rfl fun _ T=> mv T rfl fun _ T=> ?_;refine Sl.two T 65 rfl (fun hc13 T=>?_) (fun hc13 T=>?_)
            · try simp only [bq] at hc13
              refine mv T rfl fun _ T=> tln T underlying22 rfl fun _ T=> teq T rfl fun _ T=> pt T rfl fun _ T=> mv T rfl fun _ T=> ?_;refine Sl.two T 70 rfl (fun hc14 T=>?_) (fun hc14 T=>?_)
              · try simp only [bq] at hc14
                refine mv T rfl fun _ T=> ?_;refine tk T rfl (x_index (k:=0) T rfl underlying22 ti31 (H.row 2 rfl).sv rfl rfl rfl (by simp)) fun _ T=> fad T fa31_2 rfl fun _ T=> ?_;refine rn T rfl (x_load1 T rfl fl29 rfl (((H.row 2 rfl).ssn (xs:=[g3]) (enc:=En.cells) rfl).cell (i:=0) (j:=6) En.len rfl rfl)) fun _ T=> ?_;rw [hg3] at T;refine tln T underlying29 rfl fun _ T=> teq T rfl fun _ T=> pt T rfl fun _ T=> mv T rfl fun _ T=> ?_;refine Sl.two T 78 rfl (fun hc15 T=>?_) (fun hc15 T=>?_)
                · try simp only [bq] at hc15
                  refine mv T rfl fun _ T=> teq T rfl fun _ T=> pt T rfl fun _ T=> asn T rfl fun _ T=> ?_;revert Q7 T;refine rp [0,9,8,6,5,4,3,2,1] rfl fun T=>?_;refine wp_ret ?_;refine dn Tryz.f8 T rfl ?_;exact ⟨ret_b (by first | rfl | (simp;done)),H.ext⟩
                exfalso
                try simp only [bq] at hc15
                first | exact hc15 rfl | exact hc15 htk | omega | (simp at hc15;done)
              exfalso
              try simp only [bq] at hc14
              first | exact hc14 rfl | exact hc14 htk | omega | (simp at hc14;done)
            exfalso
            try simp only [bq] at hc13
            first | exact hc13 rfl | exact hc13 htk | omega | (simp at hc13;done)
          exfalso
          try simp only [bq] at hc12
          first | exact hc12 rfl | exact hc12 htk | omega | (simp at hc12;done)
        exfalso
        try simp only [bq] at hc11
        first | exact hc11 rfl | exact hc11 htk | omega | (simp at hc11;done)
      exfalso
      try simp only [bq] at hc10
      first | exact hc10 rfl | exact hc10 htk | omega | (simp at hc10;done)
    exfalso
    try simp only [bq] at hc9
    first | exact hc9 rfl | exact hc9 htk | omega | (simp at hc9;done)
  exfalso
  try simp only [bq] at hc8
  first | exact hc8 rfl | exact hc8 htk | omega | (simp at hc8;done)
theorem fam_ss {w:World} {L:List En} (h:Fam 53 4 En.rw w L) {x:En} (hx:x ∈ L):Ss w x.ad Wt.cells 4 x.ws:=Row.ssn (xs:=x.ws) (enc:=Wt.cells) (h.row x hx) rfl
structure PrP (p:Ep):Prop where
  lw:p.ws.length≤1000000
  is:inS p.s
  it:inT p.t
  wf:∀ y ∈ p.ws,y.v.num < 18446744073709551616∧y.key.length≤100000∧y.v.tx.length≤100000
theorem prE_of {w:World} {x:En} (h:Ss w x.ad Wt.cells 4 x.ws) (hp:PrP x.p):PrE w x:=⟨h,hp.lw,hp.is,hp.it,hp.wf⟩
end Go.Proofs.YtonnladboikmhaaGreatDoor
