/- Entries, a write among pairs, plainly. -/
import Derived.Test.YtonnladboikmhaaGreatDoorC0
import Derived.Test.YtonnladboikmhaaGreatDoorC1
set_option linter.unusedSimpArgs false
set_option linter.unusedVariables false
namespace Go.Proofs.YtonnladboikmhaaGreatDoor
namespace Tryz
end Tryz
open Go.Proofs.Tryz Go.Proofs.YtonnladboikmhaaGreatDoor.Tryz
open Sx
theorem Tryz.ti31:Sx.TI Tryz.prog 31 (.agg #[.int .i64 0,.int .i64 0,.int .i64 0,.int .i64 0,.int .i64 0,.int .i64 0,.slice none 0 0]) 7 72:=.mk' (by kernel_rfl)
theorem Tryz.fa31_0:Sx.FA Tryz.prog 31 0 0:=⟨_,_,_,_,_,underlying31,rfl,rfl,ti26,by decide⟩
theorem Tryz.fa31_1:Sx.FA Tryz.prog 31 1 3:=⟨_,_,_,_,_,underlying31,rfl,rfl,ti28,by decide⟩
theorem Tryz.fa31_2:Sx.FA Tryz.prog 31 2 6:=⟨_,_,_,_,_,underlying31,rfl,rfl,ti29,by decide⟩
theorem Tryz.can31:Sx.Can Tryz.prog 31:=⟨_,func31,by kernel_rfl,rfl⟩
/-! entries; a write among pairs -/
structure En where
  t:Tn
  s:Stp
  ad:Option Addr
  c:Nat
  ws:List Wt
def En.cells (x:En):List Value:=[.int .i64 x.t.co,.int .i64 x.t.li,.int .i64 x.t.sq,.int .i64 x.s.w,.int .i64 x.s.l,.int .i64 x.s.n,.slice x.ad x.ws.length x.c]
theorem En.len (x:En):x.cells.length = 7:=rfl
theorem En.one (x:En):∀ u ∈ x.cells,u.oneCell' = true:=by
  intro u hu
  simp only [En.cells,List.mem_cons,List.not_mem_nil,or_false] at hu
  rcases hu with rfl | rfl | rfl | rfl | rfl | rfl | rfl <;> rfl
def En.rw (x:En):Rw:=⟨x.ad,x.ws.length,x.c,x.ws.flatMap Wt.cells⟩
structure Ep where
  t:Tn
  s:Stp
  ws:List Wt
  deriving DecidableEq
def En.p (x:En):Ep:=⟨x.t,x.s,x.ws⟩
theorem rownil {w:World} {e:TypeId} {sz n c:Nat} {ad:Option Addr} {xs:List Value} (h:Row w e sz ad n c xs):ad = none→n = 0∧c = 0:=fun hn=>by
  subst hn
  have:=h.nilcut (lo:=0) (cutAt_zero _ _ _)
  omega
def lead (k:Key):List Wt→Nat
  | []=>0
  | y :: r=>if slt y.key k then lead k r + 1 else 0
def behind (k:Key) (l:List Wt):Nat:=if (l[lead k l]?).map Wt.key = some k then lead k l + 1 else lead k l
/-! weights -/
def sumN {α:Type} (f:α→Nat):List α→Nat
  | []=>0
  | x :: l=>f x + sumN f l
theorem sumN_mem {α:Type} {f:α→Nat}:∀ {l:List α} {x:α},x ∈ l→f x≤sumN f l
  | y :: l,x,h=>by
    simp only [sumN]
    rcases List.mem_cons.1 h with rfl | h
    · omega
    have:=sumN_mem (f:=f) h;omega
theorem EntryMay_calls (t:Tn) (s:Stp) {ad:Option Addr} {c:Nat} (l:List Wt) {w:World} (hs:Ss w ad Wt.cells 4 l) (hl:l.length≤1000000):Calls Tryz.prog 31 #[.agg #[.int .i64 t.co,.int .i64 t.li,.int .i64 t.sq,.int .i64 s.w,.int .i64 s.l,.int .i64 s.n,.slice ad l.length c]] w fun e w'=>e = .returned (.bool (emay t s l))∧Ext No w w':=by
  have R:Ro w No _:=Ro.of fun w' x=>hs.ext_no x;refine calls_into func31 rfl ntmps31 rfl fun _ T=> ?_;replace T:=T.keep [0] rfl;have H:Sx.Hp w (Sx.No) w []:=Sx.Hp.start _ _;refine sj (zz 0 [uu,tt]) rfl fun _ Q1=>?_;refine st_eff T rfl rfl rfl rfl (y_box T rfl rfl rfl _) ?_;clear T;rintro _ w1 ⟨b1,rfl,N⟩ a T;replace H:=H.new N;clear N;refine asn T rfl fun _ T=> ?_;revert Q1 T;refine rg [2,1,0] (zz 0 [tt,uu,tt,tt,tt]) rfl fun _ Q2 T=>?_;refine fad T fa31_1 rfl fun _ T=> ?_;refine rn T rfl (y_loadS T rfl underlying28 ti28 rfl ((H.blk 0 rfl).seg (k:=3) rfl) (by rfl)) fun _ T=> bd T bld28 rfl fun _ T=> ?_;refine tk T rfl (x_eqS T rfl (by kernel_rfl) (Tryz.eq28 _ _ _ _ _ _) rfl rfl rfl) fun _ T=> asn T rfl fun _ T=> ?_;revert Q2 T;refine rg [3,2,1,0] (zz 0 [tt,uu,uu,tt,tt,uu,uu,tt,tt,tt,tt,tt,tt,tt,uu,uu,tt,tt]) rfl fun _ Q3 T=>?_
  refine fad T fa31_0 rfl fun _ T=> ?_;refine rn T rfl (y_loadS T rfl underlying26 ti26 rfl ((H.blk 0 rfl).seg (k:=3) rfl) (by rfl)) fun _ T=> ?_;refine cal T H can60 rfl (xTxnMay_calls _ _) fun w2 H _ T=> mv T rfl fun _ T=> ?_;refine Sl.two T 11 rfl (fun hc4 T=>?_) (fun hc4 T=>?_)
  · try simp only [bq] at hc4
    refine fad T fa31_1 rfl fun _ T=> ?_;refine rn T rfl (y_loadS T rfl underlying28 ti28 rfl ((H.blk 0 rfl).seg (k:=3) rfl) (by rfl)) fun _ T=> ?_;refine cal T H can61 rfl (xMayS_calls _ _) fun w3 H _ T=> pt T rfl fun _ T=> mv T rfl fun _ T=> ?_;refine Sl.two T 16 rfl (fun hc5 T=>?_) (fun hc5 T=>?_)
    · try simp only [bq] at hc5
      refine mv T rfl fun _ T=> nt T rfl fun _ T=> pt T rfl fun _ T=> mv T rfl fun _ T=> ?_;refine Sl.two T 20 rfl (fun hc6 T=>?_) (fun hc6 T=>?_)
      · try simp only [bq] at hc6
        refine fad T fa31_2 rfl fun _ T=> tld T fl29 (H.blk 0 rfl) rfl fun _ T=> ?_;refine cal T H can62 rfl (xWrites_calls l (R.at H.ext) hl 16) fun w4 H _ T=> pt T rfl fun _ T=> asn T rfl fun _ T=> ?_;revert Q3 T;refine rp [2,3,1,0] rfl fun T=>?_;refine wp_ret ?_;refine dn Tryz.f31 T rfl ?_;refine ⟨ret_b ?_,H.ext⟩;clear T H;unfold emay;have hz:decide (s = sz0) = decide (s.w = 0∧s.l = 0∧s.n = 0):=by obtain ⟨a,b,c⟩:=s;unfold sz0;simp only [Stp.mk.injEq]
        rw [hz];simp_all <;> (intros;omega)
      try simp only [bq] at hc6
      refine sk T rfl fun _ T=> ?_;refine st_runskip T rfl rfl rfl rfl fun _ T=> ?_;refine st_runskip T rfl rfl rfl rfl fun _ T=> pf T rfl fun _ T=> asn T rfl fun _ T=> ?_;revert Q3 T;refine rp [2,3,1,0] rfl fun T=>?_;refine wp_ret ?_;refine dn Tryz.f31 T rfl ?_;refine ⟨ret_b ?_,H.ext⟩;clear T H;unfold emay;have hz:decide (s = sz0) = decide (s.w = 0∧s.l = 0∧s.n = 0):=by obtain ⟨a,b,c⟩:=s;unfold sz0;simp only [Stp.mk.injEq]
      rw [hz];simp_all <;> (intros;omega)
    try simp only [bq] at hc5
    refine sk T rfl fun _ T=> sk T rfl fun _ T=> pf T rfl fun _ T=> mv T rfl fun _ T=> sk T rfl fun _ T=> ?_;refine st_runskip T rfl rfl rfl rfl fun _ T=> ?_;refine st_runskip T rfl rfl rfl rfl fun _ T=> pf T rfl fun _ T=> asn T rfl fun _ T=> ?_;revert Q3 T;refine rp [2,3,1,0] rfl fun T=>?_;refine wp_ret ?_;refine dn Tryz.f31 T rfl ?_;refine ⟨ret_b ?_,H.ext⟩;clear T H;unfold emay;have hz:decide (s = sz0) = decide (s.w = 0∧s.l = 0∧s.n = 0):=by obtain ⟨a,b,c⟩:=s;unfold sz0;simp only [Stp.mk.injEq]
    rw [hz];simp_all <;> (intros;omega)
  try simp only [bq] at hc4
  refine sk T rfl fun _ T=> ?_;refine st_runskip T rfl rfl rfl rfl fun _ T=> ?_;refine st_runskip T rfl rfl rfl rfl fun _ T=> pf T rfl fun _ T=> mv T rfl fun _ T=> sk T rfl fun _ T=> sk T rfl fun _ T=> pf T rfl fun _ T=> mv T rfl fun _ T=> sk T rfl fun _ T=> ?_;refine st_runskip T rfl rfl rfl rfl fun _ T=> ?_;refine st_runskip T rfl rfl rfl rfl fun _ T=> pf T rfl fun _ T=> asn T rfl fun _ T=> ?_;revert Q3 T;refine rp [2,3,1,0] rfl fun T=>?_;refine wp_ret ?_;refine dn Tryz.f31 T rfl ?_;refine ⟨ret_b ?_,H.ext⟩;clear T H;unfold emay;have hz:decide (s = sz0) = decide (s.w = 0∧s.l = 0∧s.n = 0):=by obtain ⟨a,b,c⟩:=s;unfold sz0;simp only [Stp.mk.injEq]
  rw [hz];simp_all <;> (intros;omega)
end Go.Proofs.YtonnladboikmhaaGreatDoor
