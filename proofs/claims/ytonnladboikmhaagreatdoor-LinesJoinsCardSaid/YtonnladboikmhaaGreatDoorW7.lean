/- Walks: what is read. -/
import Derived.Test.YtonnladboikmhaaGreatDoorW0
import Derived.Test.YtonnladboikmhaaGreatDoorN5
set_option linter.unusedSimpArgs false
set_option linter.unusedVariables false
namespace Go.Proofs.YtonnladboikmhaaGreatDoor
namespace Tryz
end Tryz
open Go.Proofs.Tryz Go.Proofs.YtonnladboikmhaaGreatDoor.Tryz
open Sx
theorem Tryz.ti33:Sx.TI Tryz.prog 33 (.int .i64 0) 1 8:=.mk' (by kernel_rfl)
theorem Tryz.ti73:Sx.TI Tryz.prog 73 (.agg #[.int .i64 0]) 1 8:=.mk' (by kernel_rfl)
theorem Tryz.ti110:Sx.TI Tryz.prog 110 (.agg #[.int .i64 0,.int .i64 0,.int .i64 0]) 3 24:=.mk' (by kernel_rfl)
theorem Tryz.bld73:Sx.Bld Tryz.prog 73 #[.int .i64 0] #[(0,1)]:=⟨_,_,_,_,ti73,rfl,underlying73,fun w=>by simp [Sx.placesOf,Sx.run_sizeOf ti33]⟩
theorem Tryz.can38:Sx.Can Tryz.prog 38:=⟨_,func38,by kernel_rfl,rfl⟩
theorem Tryz.can42:Sx.Can Tryz.prog 42:=⟨_,func42,by kernel_rfl,rfl⟩
theorem Tryz.can68:Sx.Can Tryz.prog 68:=⟨_,func68,by kernel_rfl,rfl⟩
theorem Tryz.can75:Sx.Can Tryz.prog 75:=⟨_,func75,by kernel_rfl,rfl⟩
theorem Tryz.can76:Sx.Can Tryz.prog 76:=⟨_,func76,by kernel_rfl,rfl⟩
theorem Tryz.can108:Sx.Can Tryz.prog 108:=⟨_,func108,by kernel_rfl,rfl⟩
theorem all_yes {f:UInt8→Bool} {s:List UInt8} (h:∀ i c,i < s.length→s[i]? = some c→f c = true):s.all f = true:=by
  rw [List.all_eq_true]
  intro c hc
  obtain ⟨i,hi,rfl⟩:=List.mem_iff_getElem.1 hc
  exact h i _ hi (List.getElem?_eq_getElem hi)
theorem all_no {f:UInt8→Bool} {s:List UInt8} {i:Nat} {c:UInt8} (h:s[i]? = some c) (hc:f c = false):s.all f = false:=by
  rw [← Bool.not_eq_true,List.all_eq_true]
  exact fun h9=>by
    have:=h9 c (List.mem_of_getElem? h)
    rw [hc] at this
    cases this
theorem hex_calls (s:List UInt8) (hs:s.length≤100000000) (w:World):Calls Tryz.prog 68 #[.string ⟨s.toArray⟩] w fun e w'=>e = .returned (.bool (s.all hexB))∧Ext No w w':=by
  refine calls_into func68 rfl ntmps68 rfl fun _ T=> ?_;replace T:=T.keep [0] rfl;have H:Sx.Hp w (Sx.No) w []:=Sx.Hp.start _ _;refine sj (zz 0 [tt]) rfl fun _ Q1=>?_;refine asn T rfl fun _ T=> ?_;revert Q1 T;refine rq [2,0] rfl fun _ Q2 T=>?_;refine sj (zz 0 [tt,uu,tt,tt]) rfl fun _ Q3=>?_;refine mv T rfl fun _ T=> ?_;refine st_eff T rfl rfl rfl rfl (x_string_bytes T rfl underlying9 underlying39 underlying5 rfl _) ?_;rintro _ w1 ⟨bb,cb,rfl,hbs,E,hb1,hb2⟩;clear T;intro a T;replace H:=H.cons (c:=(One bb,fun u=>Bs u (some ⟨bb,0,none⟩) s)) E (fun w9 x=>hbs.ext x fun _ h=>h rfl) (fun k h=>by have h:k = bb:=h;subst h;exact ⟨hb1,hb2⟩);clear E hbs hb1 hb2;refine tln T underlying39 rfl fun _ T=> mv T rfl fun _ T=> ?_;revert Q3 T;refine rp [8,7,6,2,0] rfl fun T=>?_;refine wp_block ?_;refine wp_loopH (G:=Nat) (fun k=>[(8,.int .i64 (k:Int))]) (fun k=>[]) (fun k=>k≤s.length∧∀ i c,i < k→s[i]? = some c→hexB c = true) (fun k=>s.length - k) 0 (T.keep [8,7,6,0] rfl) (H.keep [0] rfl rfl) (⟨Nat.zero_le _,fun i c h=>absurd h (Nat.not_lt_zero _)⟩) ?_
  clear T H;rintro k a w2 hJ T H;replace T:=T.keep [8,7,6,0] rfl;replace H:=H.keep [0] rfl rfl;obtain ⟨hk,hks⟩:=hJ;refine sj (zz 0 [tt]) rfl fun _ Q4=>?_;refine tlt T rfl fun _ T=> ?_;revert Q4 T;refine rq [9,8,7,6,0] rfl fun _ Q5 T=>?_;refine wp_if T rfl (fun hc6=>?_) (fun hc6=>?_)
  · try simp only [bq] at hc6
    obtain ⟨o,ho⟩:∃ q9,s[k]? = some q9:=⟨_,List.getElem?_eq_getElem (by omega)⟩;have hob:=o.toNat_lt;refine wp_skip ?_;revert Q5;refine nx fun _ Q7=>?_;refine wp_block ?_;refine sj (zz 0 [tt,uu,tt]) rfl fun _ Q8=>?_;refine tk T rfl (x_index (k:=k) T rfl underlying39 ti5 (((H.at 0 rfl):Bs _ _ _).sv) rfl rfl (by first | rfl | omega) (by omega)) fun _ T=> ?_;refine rn T rfl (x_load1 T rfl fl5 rfl (((H.at 0 rfl):Bs _ _ _).cell ho)) fun _ T=> asn T rfl fun _ T=> ?_;revert Q8 T;refine rg [4,9,8,7,6,0] (zz 0 [tt,tt,tt,tt,tt,tt,tt,tt,tt,tt,tt,tt,tt,tt,tt]) rfl fun _ Q9 T=>?_;refine mv T rfl fun _ T=> tge T rfl fun _ T=> mv T rfl fun _ T=> ?_;refine Sl.two T 14 rfl (fun hc10 T=>?_) (fun hc10 T=>?_)
    · try simp only [bq] at hc10
      refine mv T rfl fun _ T=> tle T rfl fun _ T=> pt T rfl fun _ T=> mv T rfl fun _ T=> ?_;refine Sl.two T 18 rfl (fun hc11 T=>?_) (fun hc11 T=>?_)
      · try simp only [bq] at hc11
        refine sk T rfl fun _ T=> sk T rfl fun _ T=> sk T rfl fun _ T=> sk T rfl fun _ T=> sk T rfl fun _ T=> sk T rfl fun _ T=> pt T rfl fun _ T=> nt T rfl fun _ T=> ?_;replace T:=T.keep [26,4,9,8,7,6,0] rfl;refine ser_nil ?_;refine then_normal (Q9 _ _ ?_);clear Q9;refine wp_if T rfl (fun h=>by cases h) (fun _=>?_);have hxo:hexB o = true:=decide_eq_true (by omega);refine wp_skip <| block_normal ?_;refine then_normal (Q7 _ _ ?_);clear Q7;refine wp_text (zz 0 [tt,tt]) rfl ?_;refine tad T rfl (by omega) fun _ T=> mv T rfl fun _ T=> ?_;replace T:=T.keep [8,26,4,9,7,6,0] rfl;refine ser_nil ?_;refine then_normal ?_;exact ⟨k + 1,⟨by omega,fun i c hi hc=>by
                      rcases Nat.lt_or_ge i k with h9 | h9
                      · exact hks i c h9 hc
                      obtain rfl:i = k:=by omega
                      rw [ho] at hc;cases hc
                      exact hxo⟩,(T.keep [8,7,6,0] rfl),(H.keep [0] rfl rfl),by omega⟩
      try simp only [bq] at hc11
      refine mv T rfl fun _ T=> tge T rfl fun _ T=> mv T rfl fun _ T=> ?_;refine Sl.two T 21 rfl (fun hc12 T=>?_) (fun hc12 T=>?_)
      · try simp only [bq] at hc12
        refine mv T rfl fun _ T=> tle T rfl fun _ T=> pt T rfl fun _ T=> pf T rfl fun _ T=> nt T rfl fun _ T=> ?_;revert Q9 T;refine rif [26,4,9,8,7,6,0] rfl (fun T hc13=>?_) (fun T hc13=>?_)
        · try simp only [bq] at hc13
          have hxo:hexB o = false:=decide_eq_false (by omega);refine sj (zz 0 [tt]) rfl fun _ Q14=>?_;refine asn T rfl fun _ T=> ?_;revert Q14 T;refine rp [2,26,4,9,8,7,6,0] rfl fun T=>?_;refine wp_ret <| block_ret ?_;refine then_ret <| then_ret ?_;refine block_ret <| then_ret ?_;refine dn Tryz.f68 T rfl ?_;exact ⟨by rw [all_no ho hxo],H.ext⟩
        try simp only [bq] at hc13
        have hxo:hexB o = true:=decide_eq_true (by omega);refine wp_skip <| block_normal ?_;refine then_normal (Q7 _ _ ?_);clear Q7;refine wp_text (zz 0 [tt,tt]) rfl ?_;refine tad T rfl (by omega) fun _ T=> mv T rfl fun _ T=> ?_;replace T:=T.keep [8,26,4,9,7,6,0] rfl;refine ser_nil ?_;refine then_normal ?_;exact ⟨k + 1,⟨by omega,fun i c hi hc=>by
                      rcases Nat.lt_or_ge i k with h9 | h9
                      · exact hks i c h9 hc
                      obtain rfl:i = k:=by omega
                      rw [ho] at hc;cases hc
                      exact hxo⟩,(T.keep [8,7,6,0] rfl),(H.keep [0] rfl rfl),by omega⟩
      try simp only [bq] at hc12
      refine sk T rfl fun _ T=> sk T rfl fun _ T=> pf T rfl fun _ T=> pf T rfl fun _ T=> nt T rfl fun _ T=> ?_;replace T:=T.keep [26,4,9,8,7,6,0] rfl;refine ser_nil ?_;refine then_normal (Q9 _ _ ?_);clear Q9;refine wp_if T rfl (fun _=>?_) (fun h=>by cases h);have hxo:hexB o = false:=decide_eq_false (by omega);refine sj (zz 0 [tt]) rfl fun _ Q15=>?_;refine asn T rfl fun _ T=> ?_;revert Q15 T;refine rp [2,26,4,9,8,7,6,0] rfl fun T=>?_;refine wp_ret <| block_ret ?_;refine then_ret <| then_ret ?_;refine block_ret <| then_ret ?_;refine dn Tryz.f68 T rfl ?_;exact ⟨by rw [all_no ho hxo],H.ext⟩
    try simp only [bq] at hc10
    refine sk T rfl fun _ T=> sk T rfl fun _ T=> pf T rfl fun _ T=> mv T rfl fun _ T=> mv T rfl fun _ T=> tge T rfl fun _ T=> mv T rfl fun _ T=> ?_;refine Sl.two T 21 rfl (fun hc16 T=>?_) (fun hc16 T=>?_)
    · try simp only [bq] at hc16
      refine mv T rfl fun _ T=> tle T rfl fun _ T=> pt T rfl fun _ T=> pf T rfl fun _ T=> nt T rfl fun _ T=> ?_;revert Q9 T;refine rif [26,4,9,8,7,6,0] rfl (fun T hc17=>?_) (fun T hc17=>?_)
      · try simp only [bq] at hc17
        have hxo:hexB o = false:=decide_eq_false (by omega);refine sj (zz 0 [tt]) rfl fun _ Q18=>?_;refine asn T rfl fun _ T=> ?_;revert Q18 T;refine rp [2,26,4,9,8,7,6,0] rfl fun T=>?_;refine wp_ret <| block_ret ?_;refine then_ret <| then_ret ?_;refine block_ret <| then_ret ?_;refine dn Tryz.f68 T rfl ?_;exact ⟨by rw [all_no ho hxo],H.ext⟩
      try simp only [bq] at hc17
      have hxo:hexB o = true:=decide_eq_true (by omega);refine wp_skip <| block_normal ?_;refine then_normal (Q7 _ _ ?_);clear Q7;refine wp_text (zz 0 [tt,tt]) rfl ?_;refine tad T rfl (by omega) fun _ T=> mv T rfl fun _ T=> ?_;replace T:=T.keep [8,26,4,9,7,6,0] rfl;refine ser_nil ?_;refine then_normal ?_;exact ⟨k + 1,⟨by omega,fun i c hi hc=>by
                    rcases Nat.lt_or_ge i k with h9 | h9
                    · exact hks i c h9 hc
                    obtain rfl:i = k:=by omega
                    rw [ho] at hc;cases hc
                    exact hxo⟩,(T.keep [8,7,6,0] rfl),(H.keep [0] rfl rfl),by omega⟩
    try simp only [bq] at hc16
    refine sk T rfl fun _ T=> sk T rfl fun _ T=> pf T rfl fun _ T=> pf T rfl fun _ T=> nt T rfl fun _ T=> ?_;replace T:=T.keep [26,4,9,8,7,6,0] rfl;refine ser_nil ?_;refine then_normal (Q9 _ _ ?_);clear Q9;refine wp_if T rfl (fun _=>?_) (fun h=>by cases h);have hxo:hexB o = false:=decide_eq_false (by omega);refine sj (zz 0 [tt]) rfl fun _ Q19=>?_;refine asn T rfl fun _ T=> ?_;revert Q19 T;refine rp [2,26,4,9,8,7,6,0] rfl fun T=>?_;refine wp_ret <| block_ret ?_;refine then_ret <| then_ret ?_;refine block_ret <| then_ret ?_;refine dn Tryz.f68 T rfl ?_;exact ⟨by rw [all_no ho hxo],H.ext⟩
  try simp only [bq] at hc6
  obtain rfl:k = s.length:=by omega
  refine wp_exit <| then_exit ?_;refine then_exit <| block_exit ?_;revert Q2;refine nx fun _ Q20=>?_;refine wp_text (zz 0 [tt]) rfl ?_;refine asn T rfl fun _ T=> ?_;revert Q20 T;refine rp [2,9,8,7,6,0] rfl fun T=>?_;refine wp_ret ?_;refine dn Tryz.f68 T rfl ?_;exact ⟨by rw [all_yes hks],H.ext⟩
structure Env2 (w:World):Prop where
  e:Env w
  m:∃ m,w.cell? ⟨0,0,none⟩ = some (.int .i64 m)
theorem Env2.ext {w w':World} (h:Env2 w) (x:Ext No w w'):Env2 w':=by
  obtain ⟨m,hm⟩:=h.m
  refine ⟨h.e.ext x,m,?_⟩
  have hlt:0 < w.heap.size:=World.block_lt_of_cell? _ _ hm
  have hb:=x.block 0 hlt (not_No _)
  simp only [World.cell?] at hm ⊢
  rw [hb]
  exact hm
theorem Split_calls (s:List UInt8) (c:UInt8) (hs:s.length≤1000000) (w:World) (hE:Env2 w):Calls Tryz.prog 74 #[.string ⟨s.toArray⟩,.string ⟨#[c]⟩] w fun e w'=>∃ b,e = .returned (.slice (some ⟨b,0,none⟩) (spl c s).length (spl c s).length)∧Hp w No w' [(One b,fun u=>Ss u (some ⟨b,0,none⟩) kc 1 (spl c s))]:=by
  obtain ⟨m,hm⟩:=hE.m
  refine (Tryz.strings_Split ⟨s.toArray⟩ ⟨#[c]⟩ m w (by simp [ByteArray.size];omega) hm (show 1≤(⟨#[c]⟩:ByteArray).size from Nat.le_refl 1)).mono fun e w' h=>?_
  obtain ⟨rfl,rfl⟩:=h
  have hsz:(w.alloc (.cells ((Lib.splitB ⟨#[c]⟩ 0 (Lib.countB ⟨s.toArray⟩ ⟨#[c]⟩) ⟨s.toArray⟩).map Value.string).toArray 9)).heap.size = w.heap.size + 1:=by simp
  refine ⟨w.heap.size,by rw [countB_spl],(Hp.start No w).cons (c:=(One w.heap.size,fun u=>Ss u (some ⟨w.heap.size,0,none⟩) kc 1 (spl c s))) (Ext.alloc _ _) (fun w9 x=>?_) (fun k h=>?_)⟩
  · have h0:Ss (w.alloc (.cells ((Lib.splitB ⟨#[c]⟩ 0 (Lib.countB ⟨s.toArray⟩ ⟨#[c]⟩) ⟨s.toArray⟩).map Value.string).toArray 9)) (some ⟨w.heap.size,0,none⟩) kc 1 (spl c s):=by
      have e1:(spl c s).flatMap kc = (spl c s).map fun p=>Value.string ⟨p.toArray⟩:=by
        induction spl c s with
        | nil=>rfl
        | cons p ps ih=>rw [List.flatMap_cons,List.map_cons,ih];rfl
      refine ⟨by rw [e1,List.length_map,Nat.mul_one],fun _=>rfl,fun j v hj=>?_⟩
      rw [e1,← splitB_spl] at hj
      show World.cell? _ ⟨w.heap.size,0 + j,none⟩ = _
      rw [Nat.zero_add]
      rw [World.cell?_alloc_new]
      simpa using hj
    exact h0.ext x fun _ h=>h rfl
  have h:k = w.heap.size:=h
  subst h
  exact ⟨Nat.le_refl _,by rw [hsz];omega⟩
theorem Cut_calls (s:List UInt8) (hs:s.length≤1000000) (w:World) (hE:Env2 w):Calls Tryz.prog 39 #[.string ⟨s.toArray⟩,.string ⟨#[10]⟩] w fun e w'=>∃ q,e = .returned (.tuple #[.string ⟨(cutN s).1.toArray⟩,.string ⟨(cutN s).2.toArray⟩,.bool q])∧Ext No w w':=by
  obtain ⟨m,hm⟩:=hE.m
  refine (Tryz.strings_Cut ⟨s.toArray⟩ ⟨#[10]⟩ m w (by simp [ByteArray.size];omega) hm).mono fun e w' h=>?_
  obtain ⟨rfl,n,rfl⟩:=h
  obtain ⟨e1,e2⟩:=cutN_lib s
  refine ⟨(Lib.cut s [10]).2.2,?_,by simpa using grow_ext w n #[]⟩
  rw [← e1,← e2]
theorem x_eqNil {nz:Sz} {l:List (Nat × Value)} {a:Act} {o:Oper} {x:Operand} {t t' u:TypeId} {ms:Array (String × TypeId)} {ev:Value} (T:Sl nz l a) (hop:o.op = .binOp .eql t x (.const .nilIface) t') (hu:Tryz.prog.underlying t = some (.interface ms)) (hx:opnd l x = some ev) (he:ev = .nilIface∨∃ p,ev = .iface u p) (w:World) :
    (execOp a.eval o).run Tryz.prog w = .ok (.value (.bool (!neNil ev))) w:=by
  rcases he with rfl | ⟨p,rfl⟩
  · refine x_eql T hop hx (show opnd l (.const .nilIface) = some .nilIface from rfl) ?_ (run_eqof (b:=true) rfl ?_)
    · unfold eqGuard
      simp
    unfold Op.equal Op.maxDepth Op.equalIn
    simp only [Sem.run_bind,run_underlying hu,Result.andThen_ok,Sem.run_pure]
  refine x_eql T hop hx rfl rfl (run_eqof (b:=false) rfl ?_)
  unfold Op.equal Op.maxDepth Op.equalIn
  simp only [Sem.run_bind,run_underlying hu,Result.andThen_ok,Sem.run_pure]
def stopV (c:Int):Value:=.iface 73 (.agg #[.int .i64 c])
def stopE (c:Int):Ending:=.panicked [{ v:=stopV c,recovered:=false }]
theorem need_calls (ok:Bool) (c:Int) (w:World):Calls Tryz.prog 42 #[.bool ok,.int .i64 c] w fun e w'=>(ok = true∧e = .returned (.tuple #[])∧Ext No w w')∨(ok = false∧e = stopE c∧Ext No w w'):=by
  refine calls_into func42 rfl ntmps42 rfl fun _ T=> ?_;replace T:=T.keep [0,1] rfl;have H:Sx.Hp w (Sx.No) w []:=Sx.Hp.start _ _;refine sj (zz 0 [tt,tt]) rfl fun _ Q1=>?_;refine mv T rfl fun _ T=> nt T rfl fun _ T=> ?_;revert Q1 T;refine rif [5,0,1] rfl (fun T hc2=>?_) (fun T hc2=>?_)
  · try simp only [bq] at hc2
    have hnd:=hc2;refine wp_text (zz 0 [tt,tt,tt,uu]) rfl ?_;refine mv T rfl fun _ T=> bd T bld73 rfl fun _ T=> ?_;refine tk T rfl (x_makeIface T rfl underlying73 (fun _ h=>by cases h) rfl) fun _ T=> ?_;refine st_panic T rfl rfl rfl rfl ⟨_,_,rfl⟩ ?_;refine Sx.done_panic T.defers ?_;exact .inr ⟨by simpa using hnd,rfl,H.ext⟩
  try simp only [bq] at hc2
  have hnd:=hc2;refine wp_skip ?_;refine Sx.done_end ?_;refine done0 (fn:=Tryz.f42) T rfl  ?_;exact .inl ⟨by simpa using hnd,rfl,H.ext⟩
theorem whole_calls (s:List UInt8) (hs:s.length≤100000) (w:World) (hE:Env w):Calls Tryz.prog 76 #[.string ⟨s.toArray⟩] w fun e w'=>(∃ n,e = .returned (.int .i64 n)∧inInt n∧Lib.itoa n = s∧Ext No w w')∨(e = stopE 4∧(∀ n,inInt n→Lib.itoa n ≠ s)∧Ext No w w'):=by
  have RE:Ro w No _:=Ro.of fun w' x=>Env.ext hE x;refine calls_into func76 rfl ntmps76 rfl fun _ T=> ?_;replace T:=T.keep [0] rfl;have H:Sx.Hp w (Sx.No) w []:=Sx.Hp.start _ _;refine sj (zz 0 [tt]) rfl fun _ Q1=>?_;refine asn T rfl fun _ T=> ?_;revert Q1 T;refine rg [2,0] (zz 0 [tt,uu,tt,tt,tt,tt,tt]) rfl fun _ Q2 T=>?_;refine mv T rfl fun _ T=> ?_;refine st_call T rfl rfl rfl rfl rfl can108 rfl (Atoi_calls s hs _ (RE.at H.ext).er) ?_;rintro _ w1 ⟨v,ev,rfl,hvin,hev,hvn,E⟩;refine ⟨_,rfl,?_⟩;clear T;intro a T;replace H:=H.pure E;clear E;refine mv T rfl fun _ T=> xt T rfl fun _ T=> xt T rfl fun _ T=> asn T rfl fun _ T=> asn T rfl fun _ T=> ?_;revert Q2 T;refine rg [4,3,2,0] (zz 0 [tt,tt,tt,tt,uu,tt,tt,tt,uu]) rfl fun _ Q3 T=>?_
  refine mv T rfl fun _ T=> ?_;refine tk T rfl (x_eqNil T rfl underlying61 rfl hev) fun _ T=> mv T rfl fun _ T=> ?_;refine Sl.two T 12 rfl (fun hc4 T=>?_) (fun hc4 T=>?_)
  · try simp only [bq] at hc4
    have hnn:=hc4;refine mv T rfl fun _ T=> ?_;refine cal T H can54 rfl (Itoa_calls v hvin.1 hvin.2 _ (RE.at H.ext).tab) fun w2 H _ T=> mv T rfl fun _ T=> tse T rfl fun _ T=> pt T rfl fun _ T=> ?_;refine st_callE T rfl rfl rfl rfl rfl can42 rfl (need_calls _ 4 _) ?_;rintro _ w3 (⟨hn9,rfl,E⟩ | ⟨hn9,rfl,E⟩)
    rotate_left
    · skip
      try simp only [bq] at hn9
      refine .inr ⟨_,rfl,?_⟩;replace H:=H.pure E;clear E;refine then_panic ?_;refine Sx.done_panic T.defers ?_;exact .inr ⟨rfl,fun n h1 h2=>by obtain ⟨rfl,h8⟩:=hvn n h1 h2;first | exact hn9 h2 | (rw [h2] at hn9;simp at hn9),H.ext⟩
    try simp only [bq] at hn9
    refine .inl ⟨_,rfl,?_⟩;clear T;intro a T;replace H:=H.pure E;clear E;revert Q3 T;refine rg [4,3,2,0] (zz 0 [tt,tt]) rfl fun _ Q5 T=>?_;refine mv T rfl fun _ T=> asn T rfl fun _ T=> ?_;revert Q5 T;refine rp [2,4,3,0] rfl fun T=>?_;refine wp_ret ?_;refine dn Tryz.f76 T rfl ?_;exact .inl ⟨v,rfl,hvin,hn9,H.ext⟩
  try simp only [bq] at hc4
  have hnn:=hc4;refine sk T rfl fun _ T=> ?_;refine st_runskip T rfl rfl rfl rfl fun _ T=> sk T rfl fun _ T=> sk T rfl fun _ T=> pf T rfl fun _ T=> ?_;refine st_callE T rfl rfl rfl rfl rfl can42 rfl (need_calls _ 4 _) ?_;rintro _ w4 (⟨hn9,rfl,E⟩ | ⟨hn9,rfl,E⟩)
  rotate_left
  · skip
    try simp only [bq] at hn9
    refine .inr ⟨_,rfl,?_⟩;replace H:=H.pure E;clear E;refine then_panic ?_;refine Sx.done_panic T.defers ?_;exact .inr ⟨rfl,fun n h1 h2=>by obtain ⟨rfl,h8⟩:=hvn n h1 h2;subst h8;exact absurd hnn (by decide),H.ext⟩
  exact absurd hn9 (by decide)
theorem HParse_calls (s:List UInt8) (hs:s.length≤30000) (w:World) (he:Env w):Calls Tryz.prog 75 #[.string ⟨s.toArray⟩] w fun e w'=>∃ x y z r,e = .returned (.tuple #[.agg #[.int .i64 x,.int .i64 y,.int .i64 z],.int .i64 r])∧Parsed s x y z r∧Ext No w w':=by
  have RE:Ro w No _:=Ro.of fun w' x=>Env.ext he x;refine calls_into func75 rfl ntmps75 rfl fun _ T=> ?_;replace T:=T.keep [0] rfl;have H:Sx.Hp w (Sx.No) w []:=Sx.Hp.start _ _;refine sj (zz 0 [uu,tt]) rfl fun _ Q1=>?_;refine st_eff T rfl rfl rfl rfl (y_alloc T rfl ti28 rfl _) ?_;clear T;rintro _ w1 ⟨b1,rfl,N⟩ a T;replace H:=H.new N;clear N;refine asn T rfl fun _ T=> ?_;revert Q1 T;refine rg [3,2,0] (zz 0 [uu]) rfl fun _ Q2 T=>?_;refine st_eff T rfl rfl rfl rfl (y_alloc T rfl ti110 rfl _) ?_;clear T;rintro _ w2 ⟨b2,rfl,N⟩ a T;replace H:=H.new N;clear N;revert Q2 T;refine rg [4,3,2,0] (zz 0 [tt,tt]) rfl fun _ Q3 T=>?_;refine asn T rfl fun _ T=> asn T rfl fun _ T=> ?_;revert Q3 T;refine rq [6,5,4,3,2,0] rfl fun _ Q4 T=>?_;refine sj (zz 0 [tt]) rfl fun _ Q5=>?_;refine asn T rfl fun _ T=> ?_;revert Q5 T
  refine rp [7,6,5,4,3,2,0] rfl fun T=>?_
  refine wp_block ?_;refine wp_loopH (G:=List Int × Nat × Nat) (fun ⟨vs,f,i⟩=>[(5,.int .i64 (vs.length:Int)),(6,.int .i64 (f:Int)),(7,.int .i64 (i:Int))]) (fun ⟨vs,f,i⟩=>[cB b2 (arr vs) 110]) (fun ⟨vs,f,i⟩=>Got s vs f i∧vs.length≤3∧(∀ v ∈ vs,inInt v)∧(i = s.length + 1→f = s.length + 1)) (fun ⟨vs,f,i⟩=>s.length + 1 - i) ([],0,0) (T.keep [5,6,7,4,2,0] rfl) (H.keep [0,1] rfl rfl) (⟨Got.init s,by simp,by simp,by simp⟩) ?_;clear T H;rintro ⟨vs,f,i⟩ a w3 hJ T H;replace T:=T.keep [5,6,7,4,2,0] rfl;replace H:=H.keep [0,1] rfl rfl;obtain ⟨hg,hv3,hvi,hfe⟩:=hJ;have hfi:=hg.1;have hil9:=hg.2.1;refine wp_seq_k fun _ Q6=>?_;refine sj (zz 0 [tt,tt,tt,tt]) rfl fun _ Q7=>?_;refine mv T rfl fun _ T=> mv T rfl fun _ T=> tls T underlying9 rfl fun _ T=> tle T rfl fun _ T=> ?_;revert Q7 T;refine rif [14,5,6,7,4,2,0] rfl (fun T hc8=>?_) (fun T hc8=>?_)
  · try simp only [bq] at hc8
    refine wp_skip ?_;revert Q6;refine nx fun _ Q9=>?_;refine wp_block ?_;refine wp_seq_k fun _ Q10=>?_;refine sj (zz 0 [tt,tt,tt,tt,tt,tt,tt,tt,tt,tt]) rfl fun _ Q11=>?_;refine mv T rfl fun _ T=> mv T rfl fun _ T=> tls T underlying9 rfl fun _ T=> tlt T rfl fun _ T=> mv T rfl fun _ T=> ?_;refine Sl.two T 21 rfl (fun hc12 T=>?_) (fun hc12 T=>?_)
    · try simp only [bq] at hc12
      obtain ⟨ch,hix⟩:∃ o,s[i]? = some o:=⟨_,List.getElem?_eq_getElem (by omega)⟩;refine mv T rfl fun _ T=> mv T rfl fun _ T=> ?_;refine tk T rfl (x_indexStr T rfl underlying9 rfl rfl rfl hix) fun _ T=> tne T rfl fun _ T=> pt T rfl fun _ T=> ?_;revert Q11 T;refine rif [26,14,5,6,7,4,2,0] rfl (fun T hc13=>?_) (fun T hc13=>?_)
      · try simp only [bq] at hc13
        have hne9:ch ≠ 46:=fun e9=>by subst e9;exact hc13 rfl
        refine wp_exit <| then_exit <| block_exit ?_;refine then_normal (Q9 _ _ ?_);clear Q9;refine wp_text (zz 0 [tt,tt,tt]) rfl ?_;refine mv T rfl fun _ T=> tad T rfl (by omega) fun _ T=> asn T rfl fun _ T=> ?_;replace T:=T.keep [7,26,14,5,6,4,2,0] rfl;refine ser_nil ?_;refine then_normal ?_;exact ⟨(vs,f,i + 1),⟨hg.skip hix hne9,hv3,hvi,by omega⟩,(T.keep [5,6,7,4,2,0] rfl),(H.keep [0,1] rfl rfl),by show _ - (i + 1) < _ - i;omega⟩
      try simp only [bq] at hc13
      have hd9:(s++[46])[i]? = some 46:=by rw [List.getElem?_append_left (by omega),hix];exact congrArg some (UInt8.toNat_inj.1 (by have e:(46:UInt8).toNat = 46:=rfl;omega))
      refine wp_skip ?_;revert Q10;refine nx fun _ Q14=>?_;refine wp_text (zz 0 [tt,tt,tt,tt,uu,tt,tt,tt,tt,tt]) rfl ?_;refine mv T rfl fun _ T=> mv T rfl fun _ T=> mv T rfl fun _ T=> ?_;refine tk T rfl (x_sliceStr_lh T rfl underlying9 rfl rfl rfl rfl rfl (by omega) (by omega)) fun _ T=> ?_;refine st_call T rfl rfl rfl rfl rfl can108 rfl (Atoi_calls (pcs s f i) (by simp [pcs];omega) _ (RE.at H.ext).er) ?_;rintro _ w4 ⟨v,ev,rfl,hvin,hev,hvn,E⟩;refine ⟨_,rfl,?_⟩;clear T;intro a T;replace H:=H.pure E;clear E;refine mv T rfl fun _ T=> xt T rfl fun _ T=> xt T rfl fun _ T=> asn T rfl fun _ T=> asn T rfl fun _ T=> ?_;revert Q14 T;refine rq [9,8,26,14,5,6,7,4,2,0] rfl fun _ Q15 T=>?_;refine wp_seq_k fun _ Q16=>?_;refine wp_draws (fun u=>Sx.Ext (Sx.No) u) [(0,.take),(1,.take),(2,.take),(3,.take),(4,.take),(5,.take),(6,.take),(7,.take),(9,.take),(10,.take),(11,.take),(12,.take),(8,.run),(13,.take),(14,.take)] (by kernel_rfl) (by kernel_rfl) (fun u E _=>?_)
      replace H:=H.pure E;clear E;refine mv T rfl fun _ T=> tgt T rfl fun _ T=> mv T rfl fun _ T=> ?_;refine Sl.two T 37 rfl (fun hc17 T=>?_) (fun hc17 T=>?_)
      · try simp only [bq] at hc17
        refine sk T rfl fun _ T=> sk T rfl fun _ T=> pt T rfl fun _ T=> mv T rfl fun _ T=> sk T rfl fun _ T=> sk T rfl fun _ T=> sk T rfl fun _ T=> sk T rfl fun _ T=> sk T rfl fun _ T=> ?_;refine st_runskip T rfl rfl rfl rfl fun _ T=> sk T rfl fun _ T=> pt T rfl fun _ T=> ?_;replace T:=T.keep [49,9,8,26,14,5,6,7,4,2,0] rfl;refine ser_calm ?_;refine then_normal (Q16 _ _ ?_);clear Q16;refine wp_if T rfl (fun _=>?_) (fun h=>by cases h);refine sj (zz 0 [tt,uu,tt]) rfl fun _ Q18=>?_;refine bd T bld28 rfl fun _ T=> ?_;refine stS 1 T H ti28 rfl rfl fun w5 H=>?_;refine asn T rfl fun _ T=> ?_;revert Q18 T;refine rp [3,49,9,8,26,14,5,6,7,4,2,0] rfl fun T=>?_;refine wp_ret <| then_ret ?_;refine block_ret <| then_ret ?_;refine then_ret <| block_ret <| then_ret ?_;refine dc2 (k:=3) Tryz.f75 T underlying28 ti28 (H.blk 1 rfl) rfl rfl ?_;exact ⟨0,0,0,4,rfl,.inr ⟨rfl,rfl,rfl,rfl,hg.bad (by omega) hd9 (.inl (by omega))⟩,H.ext⟩
      try simp only [bq] at hc17
      refine mv T rfl fun _ T=> ?_;refine tk T rfl (x_neNil T rfl underlying61 rfl hev) fun _ T=> pf T rfl fun _ T=> mv T rfl fun _ T=> ?_;refine Sl.two T 41 rfl (fun hc19 T=>?_) (fun hc19 T=>?_)
      · try simp only [bq] at hc19
        have hnn:=hc19;refine sk T rfl fun _ T=> sk T rfl fun _ T=> sk T rfl fun _ T=> sk T rfl fun _ T=> sk T rfl fun _ T=> ?_;refine st_runskip T rfl rfl rfl rfl fun _ T=> sk T rfl fun _ T=> pt T rfl fun _ T=> ?_;replace T:=T.keep [49,9,8,26,14,5,6,7,4,2,0] rfl;refine ser_calm ?_;refine then_normal (Q16 _ _ ?_);clear Q16;refine wp_if T rfl (fun _=>?_) (fun h=>by cases h);refine sj (zz 0 [tt,uu,tt]) rfl fun _ Q20=>?_;refine bd T bld28 rfl fun _ T=> ?_;refine stS 1 T H ti28 rfl rfl fun w6 H=>?_;refine asn T rfl fun _ T=> ?_;revert Q20 T;refine rp [3,49,9,8,26,14,5,6,7,4,2,0] rfl fun T=>?_;refine wp_ret <| then_ret ?_;refine block_ret <| then_ret ?_;refine then_ret <| block_ret <| then_ret ?_;refine dc2 (k:=3) Tryz.f75 T underlying28 ti28 (H.blk 1 rfl) rfl rfl ?_
        exact ⟨0,0,0,4,rfl,.inr ⟨rfl,rfl,rfl,rfl,hg.bad (by omega) hd9 (.inr (fun n h1 h2=>by obtain ⟨-,rfl⟩:=hvn n h1 h2;exact absurd hnn (by decide)))⟩,H.ext⟩
      try simp only [bq] at hc19
      refine mv T rfl fun _ T=> mv T rfl fun _ T=> mv T rfl fun _ T=> mv T rfl fun _ T=> ?_;refine tk T rfl (x_sliceStr_lh T rfl underlying9 rfl rfl rfl rfl rfl (by omega) (by omega)) fun _ T=> ?_;refine cal T H can54 rfl (Itoa_calls v hvin.1 hvin.2 _ (RE.at H.ext).tab) fun w7 H _ T=> tsn T rfl fun _ T=> pf T rfl fun _ T=> ?_;replace T:=T.keep [49,9,8,26,14,5,6,7,4,2,0] rfl;refine ser_calm ?_;refine then_normal (Q16 _ _ ?_);clear Q16;refine wp_if T rfl (fun hc21=>?_) (fun hc21=>?_)
      · try simp only [bq] at hc21
        try (have hneq:=hc21)
        refine sj (zz 0 [tt,uu,tt]) rfl fun _ Q22=>?_;refine bd T bld28 rfl fun _ T=> ?_;refine stS 1 T H ti28 rfl rfl fun w8 H=>?_;refine asn T rfl fun _ T=> ?_;revert Q22 T;refine rp [3,49,9,8,26,14,5,6,7,4,2,0] rfl fun T=>?_;refine wp_ret <| then_ret ?_;refine block_ret <| then_ret ?_;refine then_ret <| block_ret <| then_ret ?_;refine dc2 (k:=3) Tryz.f75 T underlying28 ti28 (H.blk 1 rfl) rfl rfl ?_;exact ⟨0,0,0,4,rfl,.inr ⟨rfl,rfl,rfl,rfl,hg.bad (by omega) hd9 (.inr (fun n h1 h2=>by obtain ⟨rfl,-⟩:=hvn n h1 h2;exact hneq h2))⟩,H.ext⟩
      try simp only [bq] at hc21
      have hcan:Lib.itoa v = pcs s f i:=hc21;refine wp_skip ?_;revert Q15;refine nx fun _ Q23=>?_;refine wp_text (zz 0 [tt,tt,tt,uu]) rfl ?_;refine mv T rfl fun _ T=> mv T rfl fun _ T=> ?_;refine tk T rfl (x_indexAddr_array (k:=vs.length) T rfl underlying110 ti3 rfl rfl rfl (by omega)) fun _ T=> ?_;refine st_act T rfl rfl rfl (x_store1 T rfl ti3 rfl rfl rfl (H.blk 0 rfl) (by simp [arr];omega)) ?_;rintro w9 ⟨hb,E,_⟩;replace H:=H.setB 0 rfl hb E rfl;clear hb E;rw [show 0 + vs.length * 1 = vs.length from by omega,arr_set (by omega) v _ rfl] at H;revert Q23 T;refine rg [49,9,8,26,14,5,6,7,4,2,0] (zz 0 [tt,tt,tt]) rfl fun _ Q24 T=>?_;refine mv T rfl fun _ T=> tad T rfl (by omega) fun _ T=> asn T rfl fun _ T=> ?_;revert Q24 T;refine rp [5,49,9,8,26,14,6,7,4,2,0] rfl fun T=>?_;refine wp_text (zz 0 [tt,tt,tt]) rfl ?_
      refine mv T rfl fun _ T=> tad T rfl (by omega) fun _ T=> asn T rfl fun _ T=> ?_;replace T:=T.keep [6,5,49,9,8,26,14,7,4,2,0] rfl;refine ser_nil ?_;refine block_normal ?_;refine then_normal (Q9 _ _ ?_);clear Q9;refine wp_text (zz 0 [tt,tt,tt]) rfl ?_;refine mv T rfl fun _ T=> tad T rfl (by omega) fun _ T=> asn T rfl fun _ T=> ?_;replace T:=T.keep [7,6,5,49,9,8,26,14,4,2,0] rfl;refine ser_nil ?_;refine then_normal ?_;exact ⟨(vs++[v],i + 1,i + 1),⟨hg.next (by omega) hd9 hcan,by simp;omega,fun u hu=>(List.mem_append.1 hu).elim (hvi u) (fun h9=>by rw [List.mem_singleton] at h9;subst h9;exact hvin),fun h9=>h9⟩,((T.keep [5,6,7,4,2,0] rfl).conv (by simp)),(H.keep [0,1] rfl rfl),by show _ - (i + 1) < _ - i;omega⟩
    try simp only [bq] at hc12
    refine sk T rfl fun _ T=> sk T rfl fun _ T=> sk T rfl fun _ T=> sk T rfl fun _ T=> pf T rfl fun _ T=> ?_;replace T:=T.keep [26,14,5,6,7,4,2,0] rfl;refine ser_nil ?_;refine then_normal (Q11 _ _ ?_);clear Q11;refine wp_if T rfl (fun h=>by cases h) (fun _=>?_);have hd9:(s++[46])[i]? = some 46:=by rw [show i = s.length from by omega];simp
    refine wp_skip ?_;revert Q10;refine nx fun _ Q25=>?_;refine wp_text (zz 0 [tt,tt,tt,tt,uu,tt,tt,tt,tt,tt]) rfl ?_;refine mv T rfl fun _ T=> mv T rfl fun _ T=> mv T rfl fun _ T=> ?_;refine tk T rfl (x_sliceStr_lh T rfl underlying9 rfl rfl rfl rfl rfl (by omega) (by omega)) fun _ T=> ?_;refine st_call T rfl rfl rfl rfl rfl can108 rfl (Atoi_calls (pcs s f i) (by simp [pcs];omega) _ (RE.at H.ext).er) ?_;rintro _ w10 ⟨v,ev,rfl,hvin,hev,hvn,E⟩;refine ⟨_,rfl,?_⟩;clear T;intro a T;replace H:=H.pure E;clear E;refine mv T rfl fun _ T=> xt T rfl fun _ T=> xt T rfl fun _ T=> asn T rfl fun _ T=> asn T rfl fun _ T=> ?_;revert Q25 T;refine rq [9,8,26,14,5,6,7,4,2,0] rfl fun _ Q26 T=>?_;refine wp_seq_k fun _ Q27=>?_;refine wp_draws (fun u=>Sx.Ext (Sx.No) u) [(0,.take),(1,.take),(2,.take),(3,.take),(4,.take),(5,.take),(6,.take),(7,.take),(9,.take),(10,.take),(11,.take),(12,.take),(8,.run),(13,.take),(14,.take)] (by kernel_rfl) (by kernel_rfl) (fun u E _=>?_)
    replace H:=H.pure E;clear E;refine mv T rfl fun _ T=> tgt T rfl fun _ T=> mv T rfl fun _ T=> ?_;refine Sl.two T 37 rfl (fun hc28 T=>?_) (fun hc28 T=>?_)
    · try simp only [bq] at hc28
      refine sk T rfl fun _ T=> sk T rfl fun _ T=> pt T rfl fun _ T=> mv T rfl fun _ T=> sk T rfl fun _ T=> sk T rfl fun _ T=> sk T rfl fun _ T=> sk T rfl fun _ T=> sk T rfl fun _ T=> ?_;refine st_runskip T rfl rfl rfl rfl fun _ T=> sk T rfl fun _ T=> pt T rfl fun _ T=> ?_;replace T:=T.keep [49,9,8,26,14,5,6,7,4,2,0] rfl;refine ser_calm ?_;refine then_normal (Q27 _ _ ?_);clear Q27;refine wp_if T rfl (fun _=>?_) (fun h=>by cases h);refine sj (zz 0 [tt,uu,tt]) rfl fun _ Q29=>?_;refine bd T bld28 rfl fun _ T=> ?_;refine stS 1 T H ti28 rfl rfl fun w11 H=>?_;refine asn T rfl fun _ T=> ?_;revert Q29 T;refine rp [3,49,9,8,26,14,5,6,7,4,2,0] rfl fun T=>?_;refine wp_ret <| then_ret ?_;refine block_ret <| then_ret ?_;refine then_ret <| block_ret <| then_ret ?_;refine dc2 (k:=3) Tryz.f75 T underlying28 ti28 (H.blk 1 rfl) rfl rfl ?_;exact ⟨0,0,0,4,rfl,.inr ⟨rfl,rfl,rfl,rfl,hg.bad (by omega) hd9 (.inl (by omega))⟩,H.ext⟩
    try simp only [bq] at hc28
    refine mv T rfl fun _ T=> ?_;refine tk T rfl (x_neNil T rfl underlying61 rfl hev) fun _ T=> pf T rfl fun _ T=> mv T rfl fun _ T=> ?_;refine Sl.two T 41 rfl (fun hc30 T=>?_) (fun hc30 T=>?_)
    · try simp only [bq] at hc30
      have hnn:=hc30;refine sk T rfl fun _ T=> sk T rfl fun _ T=> sk T rfl fun _ T=> sk T rfl fun _ T=> sk T rfl fun _ T=> ?_;refine st_runskip T rfl rfl rfl rfl fun _ T=> sk T rfl fun _ T=> pt T rfl fun _ T=> ?_;replace T:=T.keep [49,9,8,26,14,5,6,7,4,2,0] rfl;refine ser_calm ?_;refine then_normal (Q27 _ _ ?_);clear Q27;refine wp_if T rfl (fun _=>?_) (fun h=>by cases h);refine sj (zz 0 [tt,uu,tt]) rfl fun _ Q31=>?_;refine bd T bld28 rfl fun _ T=> ?_;refine stS 1 T H ti28 rfl rfl fun w12 H=>?_;refine asn T rfl fun _ T=> ?_;revert Q31 T;refine rp [3,49,9,8,26,14,5,6,7,4,2,0] rfl fun T=>?_;refine wp_ret <| then_ret ?_;refine block_ret <| then_ret ?_;refine then_ret <| block_ret <| then_ret ?_;refine dc2 (k:=3) Tryz.f75 T underlying28 ti28 (H.blk 1 rfl) rfl rfl ?_
      exact ⟨0,0,0,4,rfl,.inr ⟨rfl,rfl,rfl,rfl,hg.bad (by omega) hd9 (.inr (fun n h1 h2=>by obtain ⟨-,rfl⟩:=hvn n h1 h2;exact absurd hnn (by decide)))⟩,H.ext⟩
    try simp only [bq] at hc30
    refine mv T rfl fun _ T=> mv T rfl fun _ T=> mv T rfl fun _ T=> mv T rfl fun _ T=> ?_;refine tk T rfl (x_sliceStr_lh T rfl underlying9 rfl rfl rfl rfl rfl (by omega) (by omega)) fun _ T=> ?_;refine cal T H can54 rfl (Itoa_calls v hvin.1 hvin.2 _ (RE.at H.ext).tab) fun w13 H _ T=> tsn T rfl fun _ T=> pf T rfl fun _ T=> ?_;replace T:=T.keep [49,9,8,26,14,5,6,7,4,2,0] rfl;refine ser_calm ?_;refine then_normal (Q27 _ _ ?_);clear Q27;refine wp_if T rfl (fun hc32=>?_) (fun hc32=>?_)
    · try simp only [bq] at hc32
      try (have hneq:=hc32)
      refine sj (zz 0 [tt,uu,tt]) rfl fun _ Q33=>?_;refine bd T bld28 rfl fun _ T=> ?_;refine stS 1 T H ti28 rfl rfl fun w14 H=>?_;refine asn T rfl fun _ T=> ?_;revert Q33 T;refine rp [3,49,9,8,26,14,5,6,7,4,2,0] rfl fun T=>?_;refine wp_ret <| then_ret ?_;refine block_ret <| then_ret ?_;refine then_ret <| block_ret <| then_ret ?_;refine dc2 (k:=3) Tryz.f75 T underlying28 ti28 (H.blk 1 rfl) rfl rfl ?_;exact ⟨0,0,0,4,rfl,.inr ⟨rfl,rfl,rfl,rfl,hg.bad (by omega) hd9 (.inr (fun n h1 h2=>by obtain ⟨rfl,-⟩:=hvn n h1 h2;exact hneq h2))⟩,H.ext⟩
    try simp only [bq] at hc32
    have hcan:Lib.itoa v = pcs s f i:=hc32;refine wp_skip ?_;revert Q26;refine nx fun _ Q34=>?_;refine wp_text (zz 0 [tt,tt,tt,uu]) rfl ?_;refine mv T rfl fun _ T=> mv T rfl fun _ T=> ?_;refine tk T rfl (x_indexAddr_array (k:=vs.length) T rfl underlying110 ti3 rfl rfl rfl (by omega)) fun _ T=> ?_;refine st_act T rfl rfl rfl (x_store1 T rfl ti3 rfl rfl rfl (H.blk 0 rfl) (by simp [arr];omega)) ?_;rintro w15 ⟨hb,E,_⟩;replace H:=H.setB 0 rfl hb E rfl;clear hb E;rw [show 0 + vs.length * 1 = vs.length from by omega,arr_set (by omega) v _ rfl] at H;revert Q34 T;refine rg [49,9,8,26,14,5,6,7,4,2,0] (zz 0 [tt,tt,tt]) rfl fun _ Q35 T=>?_;refine mv T rfl fun _ T=> tad T rfl (by omega) fun _ T=> asn T rfl fun _ T=> ?_;revert Q35 T;refine rp [5,49,9,8,26,14,6,7,4,2,0] rfl fun T=>?_;refine wp_text (zz 0 [tt,tt,tt]) rfl ?_
    refine mv T rfl fun _ T=> tad T rfl (by omega) fun _ T=> asn T rfl fun _ T=> ?_;replace T:=T.keep [6,5,49,9,8,26,14,7,4,2,0] rfl;refine ser_nil ?_;refine block_normal ?_;refine then_normal (Q9 _ _ ?_);clear Q9;refine wp_text (zz 0 [tt,tt,tt]) rfl ?_;refine mv T rfl fun _ T=> tad T rfl (by omega) fun _ T=> asn T rfl fun _ T=> ?_;replace T:=T.keep [7,6,5,49,9,8,26,14,4,2,0] rfl;refine ser_nil ?_;refine then_normal ?_;exact ⟨(vs++[v],i + 1,i + 1),⟨hg.next (by omega) hd9 hcan,by simp;omega,fun u hu=>(List.mem_append.1 hu).elim (hvi u) (fun h9=>by rw [List.mem_singleton] at h9;subst h9;exact hvin),fun h9=>h9⟩,((T.keep [5,6,7,4,2,0] rfl).conv (by simp)),(H.keep [0,1] rfl rfl),by show _ - (i + 1) < _ - i;omega⟩
  try simp only [bq] at hc8
  have hend:s++[46] = dots (itoas vs):=by
    obtain rfl:i = s.length + 1:=by omega
    exact hg.end (hfe rfl)
  refine wp_exit <| then_exit ?_;refine then_exit <| block_exit ?_;revert Q4;refine nx fun _ Q36=>?_;refine wp_text (zz 0 [tt,uu,tt,uu,tt,uu,tt,uu,uu]) rfl ?_;refine tk T rfl (x_indexAddr_array (k:=0) T rfl underlying110 ti3 rfl rfl rfl (by omega)) fun _ T=> tld T fl3 (H.blk 0 rfl) rfl fun _ T=> ?_;refine tk T rfl (x_indexAddr_array (k:=1) T rfl underlying110 ti3 rfl rfl rfl (by omega)) fun _ T=> tld T fl3 (H.blk 0 rfl) rfl fun _ T=> ?_;refine tk T rfl (x_indexAddr_array (k:=2) T rfl underlying110 ti3 rfl rfl rfl (by omega)) fun _ T=> tld T fl3 (H.blk 0 rfl) rfl fun _ T=> bd T bld28 rfl fun _ T=> ?_;refine st_eff T rfl rfl rfl rfl (y_alloc T rfl ti28 rfl _) ?_;clear T;rintro _ w16 ⟨b3,rfl,N⟩ a T;replace H:=H.new N;clear N;refine stS 0 T H ti28 rfl rfl fun w17 H=>?_;revert Q36 T
  refine rq [10,14,5,6,7,4,2,0] rfl fun _ Q37 T=>?_;refine sj (zz 0 [tt,tt,tt,uu,uu,tt,tt]) rfl fun _ Q38=>?_;refine mv T rfl fun _ T=> tne T rfl fun _ T=> mv T rfl fun _ T=> ?_;refine Sl.two T 67 rfl (fun hc39 T=>?_) (fun hc39 T=>?_)
  · try simp only [bq] at hc39
    refine st_runskip T rfl rfl rfl rfl fun _ T=> ?_;refine st_runskip T rfl rfl rfl rfl fun _ T=> sk T rfl fun _ T=> pt T rfl fun _ T=> ?_;replace T:=T.keep [71,10,14,5,6,7,4,2,0] rfl;refine ser_nil ?_;refine then_normal (Q38 _ _ ?_);clear Q38;refine wp_if T rfl (fun _=>?_) (fun h=>by cases h);refine sj (zz 0 [tt,uu,tt]) rfl fun _ Q40=>?_;refine bd T bld28 rfl fun _ T=> ?_;refine stS 2 T H ti28 rfl rfl fun w18 H=>?_;refine asn T rfl fun _ T=> ?_;revert Q40 T;refine rp [3,71,10,14,5,6,7,4,2,0] rfl fun T=>?_;refine wp_ret <| then_ret ?_;refine dc2 (k:=3) Tryz.f75 T underlying28 ti28 (H.blk 2 rfl) rfl rfl ?_;exact ⟨0,0,0,4,rfl,.inr ⟨rfl,rfl,rfl,rfl,fun t ht hs=>by have h9:=congrArg List.length ((Got.three hend hvi).1 t ht hs);simp at h9;omega⟩,H.ext⟩
  try simp only [bq] at hc39
  refine rn T rfl (y_loadS T rfl underlying28 ti28 rfl ((H.blk 0 rfl).seg (k:=3) rfl) (by rfl)) fun _ T=> ?_;refine cal T H can82 rfl (MayS_calls ⟨vs.getD 0 0,vs.getD 1 0,vs.getD 2 0⟩ _) fun w19 H _ T=> nt T rfl fun _ T=> pf T rfl fun _ T=> ?_;revert Q38 T;refine rif [71,10,14,5,6,7,4,2,0] rfl (fun T hc41=>?_) (fun T hc41=>?_)
  · try simp only [bq] at hc41
    try (have hmay:=hc41)
    refine sj (zz 0 [tt,uu,tt]) rfl fun _ Q42=>?_;refine bd T bld28 rfl fun _ T=> ?_;refine stS 2 T H ti28 rfl rfl fun w20 H=>?_;refine asn T rfl fun _ T=> ?_;revert Q42 T;refine rp [3,71,10,14,5,6,7,4,2,0] rfl fun T=>?_;refine wp_ret <| then_ret ?_;refine dc2 (k:=3) Tryz.f75 T underlying28 ti28 (H.blk 2 rfl) rfl rfl ?_;exact ⟨0,0,0,4,rfl,.inr ⟨rfl,rfl,rfl,rfl,fun t ht hs=>by have h9:=(Got.three hend hvi).1 t ht hs;subst h9;exact absurd ht (by simpa using hmay)⟩,H.ext⟩
  try simp only [bq] at hc41
  have hmay:=hc41;refine wp_skip ?_;revert Q37;refine nx fun _ Q43=>?_;refine wp_text (zz 0 [uu,uu,tt]) rfl ?_;refine rn T rfl (y_loadS T rfl underlying28 ti28 rfl ((H.blk 0 rfl).seg (k:=3) rfl) (by rfl)) fun _ T=> ?_;refine stS 2 T H ti28 rfl rfl fun w21 H=>?_;refine asn T rfl fun _ T=> ?_;revert Q43 T;refine rp [3,71,10,14,5,6,7,4,2,0] rfl fun T=>?_;refine wp_ret ?_;refine dc2 (k:=3) Tryz.f75 T underlying28 ti28 (H.blk 2 rfl) rfl rfl ?_;obtain ⟨a,b,c,rfl⟩:∃ a b c,vs = [a,b,c]:=by
    match vs,(by omega:vs.length = 3) with
    | [a,b,c],_=>exact ⟨a,b,c,rfl⟩
  exact ⟨a,b,c,0,rfl,.inl ⟨rfl,by simpa using hmay,(Got.three hend hvi).2 a b c rfl⟩,H.ext⟩
theorem cutl_calls (s:List UInt8) (hs:s.length≤100000000) (w:World) (hE:Env w):Calls Tryz.prog 38 #[.string ⟨s.toArray⟩] w fun e w'=>(tailOk s∧parseT s = parseB (aheadT s)∧e = .returned (.string ⟨(aheadT s).toArray⟩)∧Ext No w w')∨(∃ c,e = stopE c∧c ≠ 0∧parseT s = ([],c)∧Ext No w w'):=by
  have RE:Ro w No _:=Ro.of fun w' x=>Env.ext hE x;refine calls_into func38 rfl ntmps38 rfl fun _ T=> ?_;replace T:=T.keep [0] rfl;have H:Sx.Hp w (Sx.No) w []:=Sx.Hp.start _ _;refine sj (zz 0 [tt]) rfl fun _ Q1=>?_;refine asn T rfl fun _ T=> ?_;revert Q1 T;refine rg [2,0] (zz 0 [tt,tt,tt,tt]) rfl fun _ Q2 T=>?_;refine mv T rfl fun _ T=> tls T underlying9 rfl fun _ T=> tsb T rfl (by omega) fun _ T=> asn T rfl fun _ T=> ?_;revert Q2 T;refine rq [3,2,0] rfl fun _ Q3 T=>?_
  by_cases h11:11≤s.length
  · skip
    obtain ⟨n,hn⟩:∃ n:Nat,s.length = n + 11:=⟨s.length - 11,by omega⟩;rw [show (s.length:Int) - 11 = (n:Int) from by omega] at T;have hah:=ahead_at hn;refine wp_text (zz 0 [tt,tt,tt,tt,tt,tt,tt,tt,tt,tt,tt,tt,tt,tt,tt,tt,tt,tt,tt,tt,tt,tt,tt,tt,tt,tt,tt,tt,uu,tt,tt,tt,tt,tt,tt,tt,tt,uu]) rfl ?_;refine mv T rfl fun _ T=> tge T rfl fun _ T=> mv T rfl fun _ T=> ?_;refine Sl.two T 9 rfl (fun hc4 T=>?_) (fun hc4 T=>?_)
    · try simp only [bq] at hc4
      refine mv T rfl fun _ T=> teq T rfl fun _ T=> mv T rfl fun _ T=> ?_;refine Sl.two T 12 rfl (fun hc5 T=>?_) (fun hc5 T=>?_)
      · try simp only [bq] at hc5
        refine sk T rfl fun _ T=> sk T rfl fun _ T=> sk T rfl fun _ T=> sk T rfl fun _ T=> sk T rfl fun _ T=> pt T rfl fun _ T=> pt T rfl fun _ T=> mv T rfl fun _ T=> mv T rfl fun _ T=> mv T rfl fun _ T=> mv T rfl fun _ T=> tad T rfl (by omega) fun _ T=> ?_;refine tk T rfl (x_sliceStr_lh (p:=n) (q:=n + 2) T rfl underlying9 rfl rfl rfl (by omega) (by omega) (by omega) (by omega)) fun _ T=> tse T rfl fun _ T=> pt T rfl fun _ T=> mv T rfl fun _ T=> ?_;refine Sl.two T 28 rfl (fun hc6 T=>?_) (fun hc6 T=>?_)
        · try simp only [bq] at hc6
          have hb3:=hc6;refine mv T rfl fun _ T=> mv T rfl fun _ T=> tad T rfl (by omega) fun _ T=> mv T rfl fun _ T=> tad T rfl (by omega) fun _ T=> ?_;refine tk T rfl (x_sliceStr_lh (p:=n + 2) (q:=n + 10) T rfl underlying9 rfl rfl rfl (by omega) (by omega) (by omega) (by omega)) fun _ T=> ?_;refine cal T H can68 rfl (hex_calls ((s.take (n + 10)).drop (n + 2)) (by rw [List.length_drop,List.length_take];omega) _) fun w1 H _ T=> pt T rfl fun _ T=> mv T rfl fun _ T=> ?_;refine Sl.two T 37 rfl (fun hc7 T=>?_) (fun hc7 T=>?_)
          · try simp only [bq] at hc7
            have hb4:=hc7;obtain ⟨ch2,hch2⟩:∃ q9,s[n + 10]? = some q9:=⟨_,List.getElem?_eq_getElem (by omega)⟩;refine mv T rfl fun _ T=> mv T rfl fun _ T=> tad T rfl (by omega) fun _ T=> ?_;refine tk T rfl (x_indexStr (k:=n + 10) T rfl underlying9 rfl rfl (by omega) hch2) fun _ T=> teq T rfl fun _ T=> pt T rfl fun _ T=> ?_;refine st_callE T rfl rfl rfl rfl rfl can42 rfl (need_calls _ 5 _) ?_;rintro _ w2 (⟨hn9,rfl,E⟩ | ⟨hn9,rfl,E⟩)
            rotate_left
            · skip
              try simp only [bq] at hn9
              refine .inr ⟨_,rfl,?_⟩;replace H:=H.pure E;clear E;refine then_panic ?_;refine Sx.done_panic T.defers ?_;exact .inr ⟨5,rfl,by decide,parse_t5 (by
                rw [tail_iff hn];rintro ⟨h1,h2,h3,h4⟩;rw [hch2] at h4;cases h4;exact hn9 rfl),H.ext⟩
            try simp only [bq] at hn9
            refine .inl ⟨_,rfl,?_⟩;clear T;intro a T;replace H:=H.pure E;clear E;have htl:tailOk s:=(tail_iff hn).2 ⟨.inl (by omega),hb3,hb4,by rw [hch2];exact congrArg some (u8_of (k:=10) (by decide) hn9)⟩;revert Q3 T;refine rq [3,2,0] rfl fun _ Q8 T=>?_;refine wp_drawsP (fun u=>Sx.Ext (Sx.No) u) [(0,.take),(1,.take),(2,.take),(3,.take),(4,.take),(5,.take),(6,.take),(7,.take),(8,.run),(9,.take),(10,.run)] (by kernel_rfl) (by kernel_rfl) (fun u E _=>?_);replace H:=H.pure E;clear E;refine mv T rfl fun _ T=> mv T rfl fun _ T=> mv T rfl fun _ T=> tad T rfl (by omega) fun _ T=> ?_;refine tk T rfl (x_sliceStr_lh (p:=n) (q:=n + 10) T rfl underlying9 rfl rfl rfl (by omega) (by omega) (by omega) (by omega)) fun _ T=> mv T rfl fun _ T=> mv T rfl fun _ T=> ?_;refine tk T rfl (x_sliceStr_h (q:=n) T rfl underlying9 rfl rfl (by omega) (by omega)) fun _ T=> ?_;refine cal T H can30 rfl (sum_calls (s.take n) (by rw [List.length_take];omega) _ (RE.at H.ext)) fun w3 H _ T=> tse T rfl fun _ T=> ?_;refine st_callE T rfl rfl rfl rfl rfl can42 rfl (need_calls _ 13 _) ?_;rintro _ w4 (⟨hn9,rfl,E⟩ | ⟨hn9,rfl,E⟩)
            rotate_left
            · skip
              try simp only [bq] at hn9
              refine .inr ⟨_,rfl,?_⟩;refine fun a9 hd9=>?_;replace H:=H.pure E;clear E;refine then_panic ?_;refine Sx.done_panic (hd9.trans T.defers) ?_;exact .inr ⟨13,rfl,by decide,parse_t13 htl (by rw [hah.1,hah.2];exact hn9),H.ext⟩
            try simp only [bq] at hn9
            refine .inl ⟨_,rfl,?_⟩;clear T;intro a T;replace H:=H.pure E;clear E;replace T:=T.keep [3,2,0] rfl;refine ser_brave ?_;revert Q8;refine nx fun _ Q9=>?_;refine wp_text (zz 0 [tt,tt,tt,tt]) rfl ?_;refine mv T rfl fun _ T=> mv T rfl fun _ T=> ?_;refine tk T rfl (x_sliceStr_h (q:=n) T rfl underlying9 rfl rfl (by omega) (by omega)) fun _ T=> asn T rfl fun _ T=> ?_;revert Q9 T;refine rp [2,3,0] rfl fun T=>?_;refine wp_ret ?_;refine dn Tryz.f38 T rfl ?_;exact .inl ⟨htl,parse_tB htl (by rw [hah.1,hah.2];exact hn9),by rw [hah.1],H.ext⟩
          try simp only [bq] at hc7
          have hb4:=hc7;refine sk T rfl fun _ T=> sk T rfl fun _ T=> sk T rfl fun _ T=> sk T rfl fun _ T=> sk T rfl fun _ T=> pf T rfl fun _ T=> ?_;refine st_callE T rfl rfl rfl rfl rfl can42 rfl (need_calls _ 5 _) ?_;rintro _ w5 (⟨hn9,rfl,E⟩ | ⟨hn9,rfl,E⟩)
          rotate_left
          · skip
            try simp only [bq] at hn9
            refine .inr ⟨_,rfl,?_⟩;replace H:=H.pure E;clear E;refine then_panic ?_;refine Sx.done_panic T.defers ?_;exact .inr ⟨5,rfl,by decide,parse_t5 (by
              rw [tail_iff hn];rintro ⟨h1,h2,h3,h4⟩;rw [hb4] at h3;cases h3),H.ext⟩
          exact absurd hn9 (by decide)
        try simp only [bq] at hc6
        have hb3:=hc6;refine sk T rfl fun _ T=> sk T rfl fun _ T=> sk T rfl fun _ T=> sk T rfl fun _ T=> sk T rfl fun _ T=> sk T rfl fun _ T=> ?_;refine st_runskip T rfl rfl rfl rfl fun _ T=> pf T rfl fun _ T=> mv T rfl fun _ T=> sk T rfl fun _ T=> sk T rfl fun _ T=> sk T rfl fun _ T=> sk T rfl fun _ T=> sk T rfl fun _ T=> pf T rfl fun _ T=> ?_;refine st_callE T rfl rfl rfl rfl rfl can42 rfl (need_calls _ 5 _) ?_;rintro _ w6 (⟨hn9,rfl,E⟩ | ⟨hn9,rfl,E⟩)
        rotate_left
        · skip
          try simp only [bq] at hn9
          refine .inr ⟨_,rfl,?_⟩;replace H:=H.pure E;clear E;refine then_panic ?_;refine Sx.done_panic T.defers ?_;exact .inr ⟨5,rfl,by decide,parse_t5 (by
            rw [tail_iff hn];rintro ⟨h1,h2,h3,h4⟩;exact hb3 h2),H.ext⟩
        exact absurd hn9 (by decide)
      try simp only [bq] at hc5
      obtain ⟨p,hp⟩:∃ p,n = p + 1:=⟨n - 1,by omega⟩;obtain ⟨ch,hch⟩:∃ q9,s[p]? = some q9:=⟨_,List.getElem?_eq_getElem (by omega)⟩;refine mv T rfl fun _ T=> mv T rfl fun _ T=> tsb T rfl (by omega) fun _ T=> ?_;refine tk T rfl (x_indexStr (k:=p) T rfl underlying9 rfl rfl (by omega) hch) fun _ T=> teq T rfl fun _ T=> pf T rfl fun _ T=> pt T rfl fun _ T=> mv T rfl fun _ T=> ?_;refine Sl.two T 20 rfl (fun hc10 T=>?_) (fun hc10 T=>?_)
      · try simp only [bq] at hc10
        have hb2:=hc10;refine mv T rfl fun _ T=> mv T rfl fun _ T=> mv T rfl fun _ T=> tad T rfl (by omega) fun _ T=> ?_;refine tk T rfl (x_sliceStr_lh (p:=n) (q:=n + 2) T rfl underlying9 rfl rfl rfl (by omega) (by omega) (by omega) (by omega)) fun _ T=> tse T rfl fun _ T=> pt T rfl fun _ T=> mv T rfl fun _ T=> ?_;refine Sl.two T 28 rfl (fun hc11 T=>?_) (fun hc11 T=>?_)
        · try simp only [bq] at hc11
          have hb3:=hc11;refine mv T rfl fun _ T=> mv T rfl fun _ T=> tad T rfl (by omega) fun _ T=> mv T rfl fun _ T=> tad T rfl (by omega) fun _ T=> ?_;refine tk T rfl (x_sliceStr_lh (p:=n + 2) (q:=n + 10) T rfl underlying9 rfl rfl rfl (by omega) (by omega) (by omega) (by omega)) fun _ T=> ?_;refine cal T H can68 rfl (hex_calls ((s.take (n + 10)).drop (n + 2)) (by rw [List.length_drop,List.length_take];omega) _) fun w7 H _ T=> pt T rfl fun _ T=> mv T rfl fun _ T=> ?_;refine Sl.two T 37 rfl (fun hc12 T=>?_) (fun hc12 T=>?_)
          · try simp only [bq] at hc12
            have hb4:=hc12;obtain ⟨ch2,hch2⟩:∃ q9,s[n + 10]? = some q9:=⟨_,List.getElem?_eq_getElem (by omega)⟩;refine mv T rfl fun _ T=> mv T rfl fun _ T=> tad T rfl (by omega) fun _ T=> ?_;refine tk T rfl (x_indexStr (k:=n + 10) T rfl underlying9 rfl rfl (by omega) hch2) fun _ T=> teq T rfl fun _ T=> pt T rfl fun _ T=> ?_;refine st_callE T rfl rfl rfl rfl rfl can42 rfl (need_calls _ 5 _) ?_;rintro _ w8 (⟨hn9,rfl,E⟩ | ⟨hn9,rfl,E⟩)
            rotate_left
            · skip
              try simp only [bq] at hn9
              refine .inr ⟨_,rfl,?_⟩;replace H:=H.pure E;clear E;refine then_panic ?_;refine Sx.done_panic T.defers ?_;exact .inr ⟨5,rfl,by decide,parse_t5 (by
                rw [tail_iff hn];rintro ⟨h1,h2,h3,h4⟩;rw [hch2] at h4;cases h4;exact hn9 rfl),H.ext⟩
            try simp only [bq] at hn9
            refine .inl ⟨_,rfl,?_⟩;clear T;intro a T;replace H:=H.pure E;clear E;have htl:tailOk s:=(tail_iff hn).2 ⟨.inr (by rw [show n - 1 = p from by omega,hch];exact congrArg some (u8_of (k:=10) (by decide) hb2)),hb3,hb4,by rw [hch2];exact congrArg some (u8_of (k:=10) (by decide) hn9)⟩;revert Q3 T;refine rq [3,2,0] rfl fun _ Q13 T=>?_;refine wp_drawsP (fun u=>Sx.Ext (Sx.No) u) [(0,.take),(1,.take),(2,.take),(3,.take),(4,.take),(5,.take),(6,.take),(7,.take),(8,.run),(9,.take),(10,.run)] (by kernel_rfl) (by kernel_rfl) (fun u E _=>?_);replace H:=H.pure E;clear E;refine mv T rfl fun _ T=> mv T rfl fun _ T=> mv T rfl fun _ T=> tad T rfl (by omega) fun _ T=> ?_;refine tk T rfl (x_sliceStr_lh (p:=n) (q:=n + 10) T rfl underlying9 rfl rfl rfl (by omega) (by omega) (by omega) (by omega)) fun _ T=> mv T rfl fun _ T=> mv T rfl fun _ T=> ?_;refine tk T rfl (x_sliceStr_h (q:=n) T rfl underlying9 rfl rfl (by omega) (by omega)) ?_
            clear T;intro a T;refine cal T H can30 rfl (sum_calls (s.take n) (by rw [List.length_take];omega) _ (RE.at H.ext)) fun w9 H _ T=> tse T rfl fun _ T=> ?_;refine st_callE T rfl rfl rfl rfl rfl can42 rfl (need_calls _ 13 _) ?_;rintro _ w10 (⟨hn9,rfl,E⟩ | ⟨hn9,rfl,E⟩)
            rotate_left
            · skip
              try simp only [bq] at hn9
              refine .inr ⟨_,rfl,?_⟩;refine fun a9 hd9=>?_;replace H:=H.pure E;clear E;refine then_panic ?_;refine Sx.done_panic (hd9.trans T.defers) ?_;exact .inr ⟨13,rfl,by decide,parse_t13 htl (by rw [hah.1,hah.2];exact hn9),H.ext⟩
            try simp only [bq] at hn9
            refine .inl ⟨_,rfl,?_⟩;clear T;intro a T;replace H:=H.pure E;clear E;replace T:=T.keep [3,2,0] rfl;refine ser_brave ?_;revert Q13;refine nx fun _ Q14=>?_;refine wp_text (zz 0 [tt,tt,tt,tt]) rfl ?_;refine mv T rfl fun _ T=> mv T rfl fun _ T=> ?_;refine tk T rfl (x_sliceStr_h (q:=n) T rfl underlying9 rfl rfl (by omega) (by omega)) fun _ T=> asn T rfl fun _ T=> ?_;revert Q14 T;refine rp [2,3,0] rfl fun T=>?_;refine wp_ret ?_;refine dn Tryz.f38 T rfl ?_;exact .inl ⟨htl,parse_tB htl (by rw [hah.1,hah.2];exact hn9),by rw [hah.1],H.ext⟩
          try simp only [bq] at hc12
          have hb4:=hc12;refine sk T rfl fun _ T=> sk T rfl fun _ T=> sk T rfl fun _ T=> sk T rfl fun _ T=> sk T rfl fun _ T=> pf T rfl fun _ T=> ?_;refine st_callE T rfl rfl rfl rfl rfl can42 rfl (need_calls _ 5 _) ?_;rintro _ w11 (⟨hn9,rfl,E⟩ | ⟨hn9,rfl,E⟩)
          rotate_left
          · skip
            try simp only [bq] at hn9
            refine .inr ⟨_,rfl,?_⟩;replace H:=H.pure E;clear E;refine then_panic ?_;refine Sx.done_panic T.defers ?_;exact .inr ⟨5,rfl,by decide,parse_t5 (by
              rw [tail_iff hn];rintro ⟨h1,h2,h3,h4⟩;rw [hb4] at h3;cases h3),H.ext⟩
          exact absurd hn9 (by decide)
        try simp only [bq] at hc11
        have hb3:=hc11;refine sk T rfl fun _ T=> sk T rfl fun _ T=> sk T rfl fun _ T=> sk T rfl fun _ T=> sk T rfl fun _ T=> sk T rfl fun _ T=> ?_;refine st_runskip T rfl rfl rfl rfl fun _ T=> pf T rfl fun _ T=> mv T rfl fun _ T=> sk T rfl fun _ T=> sk T rfl fun _ T=> sk T rfl fun _ T=> sk T rfl fun _ T=> sk T rfl fun _ T=> pf T rfl fun _ T=> ?_;refine st_callE T rfl rfl rfl rfl rfl can42 rfl (need_calls _ 5 _) ?_;rintro _ w12 (⟨hn9,rfl,E⟩ | ⟨hn9,rfl,E⟩)
        rotate_left
        · skip
          try simp only [bq] at hn9
          refine .inr ⟨_,rfl,?_⟩;replace H:=H.pure E;clear E;refine then_panic ?_;refine Sx.done_panic T.defers ?_;exact .inr ⟨5,rfl,by decide,parse_t5 (by
            rw [tail_iff hn];rintro ⟨h1,h2,h3,h4⟩;exact hb3 h2),H.ext⟩
        exact absurd hn9 (by decide)
      try simp only [bq] at hc10
      have hb2:=hc10;refine sk T rfl fun _ T=> sk T rfl fun _ T=> sk T rfl fun _ T=> sk T rfl fun _ T=> sk T rfl fun _ T=> sk T rfl fun _ T=> pf T rfl fun _ T=> mv T rfl fun _ T=> sk T rfl fun _ T=> sk T rfl fun _ T=> sk T rfl fun _ T=> sk T rfl fun _ T=> sk T rfl fun _ T=> sk T rfl fun _ T=> ?_;refine st_runskip T rfl rfl rfl rfl fun _ T=> pf T rfl fun _ T=> mv T rfl fun _ T=> sk T rfl fun _ T=> sk T rfl fun _ T=> sk T rfl fun _ T=> sk T rfl fun _ T=> sk T rfl fun _ T=> pf T rfl fun _ T=> ?_
      refine st_callE T rfl rfl rfl rfl rfl can42 rfl (need_calls _ 5 _) ?_;rintro _ w13 (⟨hn9,rfl,E⟩ | ⟨hn9,rfl,E⟩)
      rotate_left
      · skip
        try simp only [bq] at hn9
        refine .inr ⟨_,rfl,?_⟩;replace H:=H.pure E;clear E;refine then_panic ?_;refine Sx.done_panic T.defers ?_;exact .inr ⟨5,rfl,by decide,parse_t5 (by
          rw [tail_iff hn];rintro ⟨h1,h2,h3,h4⟩;rcases h1 with h1 | h1
          · omega
          rw [show n - 1 = p from by omega,hch] at h1;cases h1;exact hb2 rfl),H.ext⟩
      exact absurd hn9 (by decide)
    exfalso
    try simp only [bq] at hc4
    first | omega | (simp at hc4;done) | (simp at hc4;omega) | (simp_all;done) | (exfalso;simp_all;omega)
  skip
  refine wp_text (zz 0 [tt,tt,tt,tt,tt,tt,tt,tt,tt,tt,tt,tt,tt,tt,tt,tt,tt,tt,tt,tt,tt,tt,tt,tt,tt,tt,tt,tt,uu,tt,tt,tt,tt,tt,tt,tt,tt,uu]) rfl ?_;refine mv T rfl fun _ T=> tge T rfl fun _ T=> mv T rfl fun _ T=> ?_;refine Sl.two T 9 rfl (fun hc15 T=>?_) (fun hc15 T=>?_)
  · exfalso
    try simp only [bq] at hc15
    first | omega | (simp at hc15;done) | (simp at hc15;omega) | (simp_all;done) | (exfalso;simp_all;omega)
  try simp only [bq] at hc15
  refine sk T rfl fun _ T=> sk T rfl fun _ T=> sk T rfl fun _ T=> sk T rfl fun _ T=> sk T rfl fun _ T=> sk T rfl fun _ T=> sk T rfl fun _ T=> sk T rfl fun _ T=> sk T rfl fun _ T=> pf T rfl fun _ T=> mv T rfl fun _ T=> sk T rfl fun _ T=> sk T rfl fun _ T=> sk T rfl fun _ T=> sk T rfl fun _ T=> sk T rfl fun _ T=> sk T rfl fun _ T=> pf T rfl fun _ T=> mv T rfl fun _ T=> sk T rfl fun _ T=> sk T rfl fun _ T=> sk T rfl fun _ T=> sk T rfl fun _ T=> sk T rfl ?_
  clear T;intro a T;refine sk T rfl fun _ T=> ?_;refine st_runskip T rfl rfl rfl rfl fun _ T=> pf T rfl fun _ T=> mv T rfl fun _ T=> sk T rfl fun _ T=> sk T rfl fun _ T=> sk T rfl fun _ T=> sk T rfl fun _ T=> sk T rfl fun _ T=> pf T rfl fun _ T=> ?_;refine st_callE T rfl rfl rfl rfl rfl can42 rfl (need_calls _ 5 _) ?_;rintro _ w14 (⟨hn9,rfl,E⟩ | ⟨hn9,rfl,E⟩)
  rotate_left
  · skip
    try simp only [bq] at hn9
    refine .inr ⟨_,rfl,?_⟩;replace H:=H.pure E;clear E;refine then_panic ?_;refine Sx.done_panic T.defers ?_;exact .inr ⟨5,rfl,by decide,parse_t5 (fun h9=>by have:=tail_len h9;omega),H.ext⟩
  exact absurd hn9 (by decide)
end Go.Proofs.YtonnladboikmhaaGreatDoor
