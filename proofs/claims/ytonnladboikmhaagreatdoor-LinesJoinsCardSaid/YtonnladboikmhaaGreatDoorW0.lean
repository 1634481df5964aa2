/- Walks: what is printed. -/
import Derived.Test.YtonnladboikmhaaGreatDoorC1
import Derived.Test.YtonnladboikmhaaGreatDoorY5
import Derived.Test.YtonnladboikmhaaGreatDoorC5
import Derived.Test.YtonnladboikmhaaGreatDoorN1
import Derived.Test.YtonnladboikmhaaGreatDoorN0
import Derived.Test.YtonnladboikmhaaGreatDoorSx7
import Derived.Test.YtonnladboikmhaaGreatDoorSx8
import Derived.Lib.ConvBytes
import Derived.Lib.Repeat
import Derived.Lib.Builder
import Derived.Shelf.Strings.Builder1
set_option linter.unusedSimpArgs false
set_option linter.unusedVariables false
namespace Go.Proofs.YtonnladboikmhaaGreatDoor
namespace Tryz
end Tryz
open Go.Proofs.Tryz Go.Proofs.YtonnladboikmhaaGreatDoor.Tryz
open Sx
theorem Tryz.ti39:Sx.TI Tryz.prog 39 (.slice none 0 0) 1 24:=.mk' (by kernel_rfl)
theorem Tryz.ti57:Sx.TI Tryz.prog 57 (.agg #[.pointer none,.slice none 0 0]) 2 32:=.mk' (by kernel_rfl)
theorem Tryz.ti69:Sx.TI Tryz.prog 69 (.int .u32 0) 1 4:=.mk' (by kernel_rfl)
theorem Tryz.ti119:Sx.TI Tryz.prog 119 (.agg #[.int .u32 0,.int .u32 0,.int .u32 0,.int .u32 0,.int .u32 0,.int .u32 0,.int .u32 0,.int .u32 0,.int .u32 0,.int .u32 0,.int .u32 0,.int .u32 0,.int .u32 0,.int .u32 0,.int .u32 0,.int .u32 0,.int .u32 0,.int .u32 0,.int .u32 0,.int .u32 0,.int .u32 0,.int .u32 0,.int .u32 0,.int .u32 0,.int .u32 0,.int .u32 0,.int .u32 0,.int .u32 0,.int .u32 0,.int .u32 0,.int .u32 0,.int .u32 0,.int .u32 0,.int .u32 0,.int .u32 0,.int .u32 0,.int .u32 0,.int .u32 0,.int .u32 0,.int .u32 0,.int .u32 0,.int .u32 0,.int .u32 0,.int .u32 0,.int .u32 0,.int .u32 0,.int .u32 0,.int .u32 0,.int .u32 0,.int .u32 0,.int .u32 0,.int .u32 0,.int .u32 0,.int .u32 0,.int .u32 0,.int .u32 0,.int .u32 0,.int .u32 0,.int .u32 0,.int .u32 0,.int .u32 0,.int .u32 0,.int .u32 0,.int .u32 0,.int .u32 0,.int .u32 0,.int .u32 0,.int .u32 0,.int .u32 0,.int .u32 0,.int .u32 0,.int .u32 0,.int .u32 0,.int .u32 0,.int .u32 0,.int .u32 0,.int .u32 0,.int .u32 0,.int .u32 0,.int .u32 0,.int .u32 0,.int .u32 0,.int .u32 0,.int .u32 0,.int .u32 0,.int .u32 0,.int .u32 0,.int .u32 0,.int .u32 0,.int .u32 0,.int .u32 0,.int .u32 0,.int .u32 0,.int .u32 0,.int .u32 0,.int .u32 0,.int .u32 0,.int .u32 0,.int .u32 0,.int .u32 0,.int .u32 0,.int .u32 0,.int .u32 0,.int .u32 0,.int .u32 0,.int .u32 0,.int .u32 0,.int .u32 0,.int .u32 0,.int .u32 0,.int .u32 0,.int .u32 0,.int .u32 0,.int .u32 0,.int .u32 0,.int .u32 0,.int .u32 0,.int .u32 0,.int .u32 0,.int .u32 0,.int .u32 0,.int .u32 0,.int .u32 0,.int .u32 0,.int .u32 0,.int .u32 0,.int .u32 0,.int .u32 0,.int .u32 0,.int .u32 0,.int .u32 0,.int .u32 0,.int .u32 0,.int .u32 0,.int .u32 0,.int .u32 0,.int .u32 0,.int .u32 0,.int .u32 0,.int .u32 0,.int .u32 0,.int .u32 0,.int .u32 0,.int .u32 0,.int .u32 0,.int .u32 0,.int .u32 0,.int .u32 0,.int .u32 0,.int .u32 0,.int .u32 0,.int .u32 0,.int .u32 0,.int .u32 0,.int .u32 0,.int .u32 0,.int .u32 0,.int .u32 0,.int .u32 0,.int .u32 0,.int .u32 0,.int .u32 0,.int .u32 0,.int .u32 0,.int .u32 0,.int .u32 0,.int .u32 0,.int .u32 0,.int .u32 0,.int .u32 0,.int .u32 0,.int .u32 0,.int .u32 0,.int .u32 0,.int .u32 0,.int .u32 0,.int .u32 0,.int .u32 0,.int .u32 0,.int .u32 0,.int .u32 0,.int .u32 0,.int .u32 0,.int .u32 0,.int .u32 0,.int .u32 0,.int .u32 0,.int .u32 0,.int .u32 0,.int .u32 0,.int .u32 0,.int .u32 0,.int .u32 0,.int .u32 0,.int .u32 0,.int .u32 0,.int .u32 0,.int .u32 0,.int .u32 0,.int .u32 0,.int .u32 0,.int .u32 0,.int .u32 0,.int .u32 0,.int .u32 0,.int .u32 0,.int .u32 0,.int .u32 0,.int .u32 0,.int .u32 0,.int .u32 0,.int .u32 0,.int .u32 0,.int .u32 0,.int .u32 0,.int .u32 0,.int .u32 0,.int .u32 0,.int .u32 0,.int .u32 0,.int .u32 0,.int .u32 0,.int .u32 0,.int .u32 0,.int .u32 0,.int .u32 0,.int .u32 0,.int .u32 0,.int .u32 0,.int .u32 0,.int .u32 0,.int .u32 0,.int .u32 0,.int .u32 0,.int .u32 0,.int .u32 0,.int .u32 0,.int .u32 0,.int .u32 0,.int .u32 0,.int .u32 0,.int .u32 0,.int .u32 0,.int .u32 0,.int .u32 0,.int .u32 0,.int .u32 0,.int .u32 0,.int .u32 0,.int .u32 0,.int .u32 0,.int .u32 0,.int .u32 0,.int .u32 0,.int .u32 0,.int .u32 0]) 256 1024:=.mk' (by kernel_rfl)
theorem Tryz.ti161:Sx.TI Tryz.prog 161 (.agg #[.int .u8 0,.int .u8 0,.int .u8 0,.int .u8 0,.int .u8 0,.int .u8 0,.int .u8 0,.int .u8 0,.int .u8 0,.int .u8 0,.int .u8 0,.int .u8 0,.int .u8 0,.int .u8 0,.int .u8 0,.int .u8 0,.int .u8 0,.int .u8 0,.int .u8 0,.int .u8 0,.int .u8 0,.int .u8 0,.int .u8 0,.int .u8 0,.int .u8 0,.int .u8 0,.int .u8 0,.int .u8 0,.int .u8 0,.int .u8 0,.int .u8 0,.int .u8 0,.int .u8 0,.int .u8 0,.int .u8 0,.int .u8 0,.int .u8 0,.int .u8 0,.int .u8 0,.int .u8 0,.int .u8 0,.int .u8 0,.int .u8 0,.int .u8 0,.int .u8 0,.int .u8 0,.int .u8 0,.int .u8 0,.int .u8 0,.int .u8 0,.int .u8 0,.int .u8 0,.int .u8 0,.int .u8 0,.int .u8 0,.int .u8 0,.int .u8 0,.int .u8 0,.int .u8 0,.int .u8 0,.int .u8 0,.int .u8 0,.int .u8 0,.int .u8 0,.int .u8 0]) 65 65:=.mk' (by kernel_rfl)
theorem Tryz.fl5:Sx.Flat Tryz.prog 5:=⟨_,underlying5,trivial⟩
theorem Tryz.fl39:Sx.Flat Tryz.prog 39:=⟨_,underlying39,trivial⟩
theorem Tryz.fl69:Sx.Flat Tryz.prog 69:=⟨_,underlying69,trivial⟩
theorem Tryz.fa57_1:Sx.FA Tryz.prog 57 1 1:=⟨_,_,_,_,_,underlying57,rfl,rfl,ti39,by decide⟩
theorem Tryz.bld89:Sx.Bld Tryz.prog 89 #[.int .i64 0,.int .i64 0,.int .i64 0,.int .i64 0,.int .i64 0,.int .i64 0,.slice none 0 0,.slice none 0 0] #[(0,3),(3,3),(6,1),(7,1)]:=⟨_,_,_,_,ti89,rfl,underlying89,fun w=>by simp [Sx.placesOf,Sx.run_sizeOf ti26,Sx.run_sizeOf ti28,Sx.run_sizeOf ti29,Sx.run_sizeOf ti82]⟩
theorem Tryz.can11:Sx.Can Tryz.prog 11:=⟨_,func11,by kernel_rfl,rfl⟩
theorem Tryz.can12:Sx.Can Tryz.prog 12:=⟨_,func12,by kernel_rfl,rfl⟩
theorem Tryz.can24:Sx.Can Tryz.prog 24:=⟨_,func24,by kernel_rfl,rfl⟩
theorem Tryz.can26:Sx.Can Tryz.prog 26:=⟨_,func26,by kernel_rfl,rfl⟩
theorem Tryz.can27:Sx.Can Tryz.prog 27:=⟨_,func27,by kernel_rfl,rfl⟩
theorem Tryz.can28:Sx.Can Tryz.prog 28:=⟨_,func28,by kernel_rfl,rfl⟩
theorem Tryz.can29:Sx.Can Tryz.prog 29:=⟨_,func29,by kernel_rfl,rfl⟩
theorem Tryz.can30:Sx.Can Tryz.prog 30:=⟨_,func30,by kernel_rfl,rfl⟩
theorem Tryz.can32:Sx.Can Tryz.prog 32:=⟨_,func32,by kernel_rfl,rfl⟩
theorem Tryz.can33:Sx.Can Tryz.prog 33:=⟨_,func33,by kernel_rfl,rfl⟩
theorem Tryz.can34:Sx.Can Tryz.prog 34:=⟨_,func34,by kernel_rfl,rfl⟩
theorem Tryz.can35:Sx.Can Tryz.prog 35:=⟨_,func35,by kernel_rfl,rfl⟩
theorem Tryz.can51:Sx.Can Tryz.prog 51:=⟨_,func51,by kernel_rfl,rfl⟩
theorem Tryz.can52:Sx.Can Tryz.prog 52:=⟨_,func52,by kernel_rfl,rfl⟩
theorem Tryz.can53:Sx.Can Tryz.prog 53:=⟨_,func53,by kernel_rfl,rfl⟩
theorem Tryz.can57:Sx.Can Tryz.prog 57:=⟨_,func57,by kernel_rfl,rfl⟩
theorem Tryz.can59:Sx.Can Tryz.prog 59:=⟨_,func59,by kernel_rfl,rfl⟩
theorem Tryz.can64:Sx.Can Tryz.prog 64:=⟨_,func64,by kernel_rfl,rfl⟩
theorem Tryz.can90:Sx.Can Tryz.prog 90:=⟨_,func90,by kernel_rfl,rfl⟩
theorem Tryz.can121:Sx.Can Tryz.prog 121:=⟨_,func121,by kernel_rfl,rfl⟩
theorem Tryz.can153:Sx.Can Tryz.prog 153:=⟨_,func153,by kernel_rfl,rfl⟩
theorem Tryz.can154:Sx.Can Tryz.prog 154:=⟨_,func154,by kernel_rfl,rfl⟩
def inS (s:Stp):Prop:=inInt s.w∧inInt s.l∧inInt s.n
def inT (t:Tn):Prop:=inInt t.co∧inInt t.li∧inInt t.sq
theorem quote_flat (t:List UInt8):(quote t).length = (t.flatMap esc).length + 2:=by unfold quote;simp
theorem quote_le (t:List UInt8):(quote t).length≤3 * t.length + 2:=by
  have:=flat_len t
  rw [quote_flat]
  omega
theorem numP_le {b:Nat}:(numP b).length≤64:=by
  unfold numP
  split
  · decide
  rename_i h0
  have hs:(sgT (sgb b)).length≤1:=by cases sgb b <;> decide
  rw [List.length_append]
  split
  · show _ + 3≤64
    omega
  split
  · show _ + 1≤64
    omega
  rename_i h1 h2
  have hf:=cls_fin h0 (fun h=>h1 (.inl h)) (fun h=>h1 (.inr h)) (fun h=>h2 (.inl h)) (fun h=>h2 (.inr h))
  have:=posT_len hf.2
  omega
theorem printV_le {v:Vl} {n:Nat} (h:v.tx.length≤n):(printV v).length≤3 * n + 64:=by
  unfold printV
  split
  · show 1≤_
    omega
  split
  · have:=numP_le (b:=v.num)
    omega
  split
  · have:=quote_le v.tx
    omega
  show 4≤_
  omega
theorem PrintS_calls (s:Stp) (h:inS s) (w:World) (ht:Tab w):Calls Tryz.prog 52 #[.agg #[.int .i64 s.w,.int .i64 s.l,.int .i64 s.n]] w fun e w'=>e = .returned (.string ⟨(stpT s).toArray⟩)∧Ext No w w':=by
  have R:Ro w No _:=Ro.of fun w' x=>Tab.ext ht x;have z0:=itoa_len s.w h.1.1 h.1.2;have z1:=itoa_len s.l h.2.1.1 h.2.1.2;have z2:=itoa_len s.n h.2.2.1 h.2.2.2;refine calls_into func52 rfl ntmps52 rfl fun _ T=> ?_;replace T:=T.keep [0] rfl;have H:Sx.Hp w (Sx.No) w []:=Sx.Hp.start _ _;refine sj (zz 0 [uu,tt]) rfl fun _ Q1=>?_;refine st_eff T rfl rfl rfl rfl (y_box T rfl rfl rfl _) ?_;clear T;rintro _ w1 ⟨b1,rfl,N⟩ a T;replace H:=H.new N;clear N;refine asn T rfl fun _ T=> ?_;revert Q1 T;refine rq [2,1,0] rfl fun _ Q2 T=>?_;revert H;refine drw (Sx.No) [(0,.take),(1,.held),(4,.take),(5,.held),(9,.take),(10,.held),(2,.keep),(3,.take),(6,.keep),(7,.take),(8,.take),(11,.run),(12,.take),(13,.take)] (by kernel_rfl) (by kernel_rfl) fun u H hH=>?_;have Hu:=H;refine fad T fa28_0 rfl fun _ T=> ?_;refine hed T rfl hH (fun w' h'=>x_load1 T rfl fl3 rfl ((Hu.heldB 0 rfl h' off_No).nth rfl)) fun _ T=> fad T fa28_1 rfl fun _ T=> ?_;refine hed T rfl hH (fun w' h'=>x_load1 T rfl fl3 rfl ((Hu.heldB 0 rfl h' off_No).nth rfl)) ?_
  clear T;intro a T;refine fad T fa28_2 rfl fun _ T=> ?_;refine hed T rfl hH (fun w' h'=>x_load1 T rfl fl3 rfl ((Hu.heldB 0 rfl h' off_No).nth rfl)) fun _ T=> ?_;refine calk T hH H can54 rfl (Itoa_calls s.w h.1.1 h.1.2 _ (R.at H.ext)) fun w2 hH H _ T=> ?_;refine tct T rfl (by simp only [ll];omega) fun _ T=> ?_;refine calk T hH H can54 rfl (Itoa_calls s.l h.2.1.1 h.2.1.2 _ (R.at H.ext)) fun w3 hH H _ T=> ?_;refine tct T rfl (by simp only [ll];omega) fun _ T=> ?_;refine tct T rfl (by simp only [ll];omega) fun _ T=> ?_;refine cal T H can54 rfl (Itoa_calls s.n h.2.2.1 h.2.2.2 _ (R.at H.ext)) fun w4 H _ T=> ?_;refine tct T rfl (by simp only [ll];omega) ?_
  clear T;intro a T;refine asn T rfl fun _ T=> ?_;replace T:=T.keep [2,1,0] rfl;clear Hu hH;refine ser_calm ?_;refine then_normal (Q2 _ _ ?_);clear Q2;refine wp_ret ?_;refine dn Tryz.f52 T rfl ?_;refine ⟨congrArg (fun l:List UInt8=>Ending.returned (Value.string ⟨l.toArray⟩)) ?_,H.ext⟩;simp [stpT,tnT,dot3]
theorem xPrintS_calls (s:Stp) (h:inS s) (w:World):Calls Tryz.prog 64 #[.agg #[.int .i64 s.w,.int .i64 s.l,.int .i64 s.n]] w fun e w'=>e = .returned (.string ⟨(stpT s).toArray⟩)∧Ext No w w':=by
  have z0:=itoa_len s.w h.1.1 h.1.2;have z1:=itoa_len s.l h.2.1.1 h.2.1.2;have z2:=itoa_len s.n h.2.2.1 h.2.2.2;refine calls_into func64 rfl ntmps64 rfl fun _ T=> ?_;replace T:=T.keep [0] rfl;have H:Sx.Hp w (Sx.No) w []:=Sx.Hp.start _ _;refine sj (zz 0 [uu,tt]) rfl fun _ Q1=>?_;refine st_eff T rfl rfl rfl rfl (y_box T rfl rfl rfl _) ?_;clear T;rintro _ w1 ⟨b1,rfl,N⟩ a T;replace H:=H.new N;clear N;refine asn T rfl fun _ T=> ?_;revert Q1 T;refine rq [2,1,0] rfl fun _ Q2 T=>?_;revert H;refine drw (Sx.No) [(0,.take),(1,.held),(4,.take),(5,.held),(9,.take),(10,.held),(2,.keep),(3,.take),(6,.keep),(7,.take),(8,.take),(11,.run),(12,.take),(13,.take)] (by kernel_rfl) (by kernel_rfl) fun u H hH=>?_;have Hu:=H;refine fad T fa28_0 rfl fun _ T=> ?_;refine hed T rfl hH (fun w' h'=>x_load1 T rfl fl3 rfl ((Hu.heldB 0 rfl h' off_No).nth rfl)) fun _ T=> fad T fa28_1 rfl fun _ T=> ?_;refine hed T rfl hH (fun w' h'=>x_load1 T rfl fl3 rfl ((Hu.heldB 0 rfl h' off_No).nth rfl)) ?_
  clear T;intro a T;refine fad T fa28_2 rfl fun _ T=> ?_;refine hed T rfl hH (fun w' h'=>x_load1 T rfl fl3 rfl ((Hu.heldB 0 rfl h' off_No).nth rfl)) fun _ T=> ?_;refine calk T hH H can63 rfl (Dec_calls s.w h.1.1 h.1.2 _) fun w2 hH H _ T=> ?_;refine tct T rfl (by simp only [ll];omega) fun _ T=> ?_;refine calk T hH H can63 rfl (Dec_calls s.l h.2.1.1 h.2.1.2 _) fun w3 hH H _ T=> ?_;refine tct T rfl (by simp only [ll];omega) fun _ T=> ?_;refine tct T rfl (by simp only [ll];omega) fun _ T=> ?_;refine cal T H can63 rfl (Dec_calls s.n h.2.2.1 h.2.2.2 _) fun w4 H _ T=> ?_;refine tct T rfl (by simp only [ll];omega) ?_
  clear T;intro a T;refine asn T rfl fun _ T=> ?_;replace T:=T.keep [2,1,0] rfl;clear Hu hH;refine ser_calm ?_;refine then_normal (Q2 _ _ ?_);clear Q2;refine wp_ret ?_;refine dn Tryz.f64 T rfl ?_;refine ⟨congrArg (fun l:List UInt8=>Ending.returned (Value.string ⟨l.toArray⟩)) ?_,H.ext⟩;simp [stpT,tnT,dot3]
theorem numberT_calls (t:Tn) (h:inT t) (w:World) (ht:Tab w):Calls Tryz.prog 53 #[.agg #[.int .i64 t.co,.int .i64 t.li,.int .i64 t.sq]] w fun e w'=>e = .returned (.string ⟨(tnT t).toArray⟩)∧Ext No w w':=by
  have R:Ro w No _:=Ro.of fun w' x=>Tab.ext ht x;have z0:=itoa_len t.co h.1.1 h.1.2;have z1:=itoa_len t.li h.2.1.1 h.2.1.2;have z2:=itoa_len t.sq h.2.2.1 h.2.2.2;refine calls_into func53 rfl ntmps53 rfl fun _ T=> ?_;replace T:=T.keep [0] rfl;have H:Sx.Hp w (Sx.No) w []:=Sx.Hp.start _ _;refine sj (zz 0 [uu,tt]) rfl fun _ Q1=>?_;refine st_eff T rfl rfl rfl rfl (y_box T rfl rfl rfl _) ?_;clear T;rintro _ w1 ⟨b1,rfl,N⟩ a T;replace H:=H.new N;clear N;refine asn T rfl fun _ T=> ?_;revert Q1 T;refine rq [2,1,0] rfl fun _ Q2 T=>?_;revert H;refine drw (Sx.No) [(0,.take),(1,.held),(4,.take),(5,.held),(9,.take),(10,.held),(2,.keep),(3,.take),(6,.keep),(7,.take),(8,.take),(11,.run),(12,.take),(13,.take)] (by kernel_rfl) (by kernel_rfl) fun u H hH=>?_;have Hu:=H;refine fad T fa26_0 rfl fun _ T=> ?_;refine hed T rfl hH (fun w' h'=>x_load1 T rfl fl3 rfl ((Hu.heldB 0 rfl h' off_No).nth rfl)) fun _ T=> fad T fa26_1 rfl fun _ T=> ?_;refine hed T rfl hH (fun w' h'=>x_load1 T rfl fl3 rfl ((Hu.heldB 0 rfl h' off_No).nth rfl)) ?_
  clear T;intro a T;refine fad T fa26_2 rfl fun _ T=> ?_;refine hed T rfl hH (fun w' h'=>x_load1 T rfl fl3 rfl ((Hu.heldB 0 rfl h' off_No).nth rfl)) fun _ T=> ?_;refine calk T hH H can54 rfl (Itoa_calls t.co h.1.1 h.1.2 _ (R.at H.ext)) fun w2 hH H _ T=> ?_;refine tct T rfl (by simp only [ll];omega) fun _ T=> ?_;refine calk T hH H can54 rfl (Itoa_calls t.li h.2.1.1 h.2.1.2 _ (R.at H.ext)) fun w3 hH H _ T=> ?_;refine tct T rfl (by simp only [ll];omega) fun _ T=> ?_;refine tct T rfl (by simp only [ll];omega) fun _ T=> ?_;refine cal T H can54 rfl (Itoa_calls t.sq h.2.2.1 h.2.2.2 _ (R.at H.ext)) fun w4 H _ T=> ?_;refine tct T rfl (by simp only [ll];omega) ?_
  clear T;intro a T;refine asn T rfl fun _ T=> ?_;replace T:=T.keep [2,1,0] rfl;clear Hu hH;refine ser_calm ?_;refine then_normal (Q2 _ _ ?_);clear Q2;refine wp_ret ?_;refine dn Tryz.f53 T rfl ?_;refine ⟨congrArg (fun l:List UInt8=>Ending.returned (Value.string ⟨l.toArray⟩)) ?_,H.ext⟩;simp [stpT,tnT,dot3]
theorem dot_len {a b c:Int} (ha:inInt a) (hb:inInt b) (hc:inInt c):(dot3 a b c).length≤62:=by
  have z0:=itoa_len a ha.1 ha.2
  have z1:=itoa_len b hb.1 hb.2
  have z2:=itoa_len c hc.1 hc.2
  simp only [dot3,List.length_append,List.length_cons]
  omega
theorem stpT_len {s:Stp} (h:inS s):(stpT s).length≤62:=dot_len h.1 h.2.1 h.2.2
theorem tnT_len {t:Tn} (h:inT t):(tnT t).length≤62:=dot_len h.1 h.2.1 h.2.2
theorem head_calls (t:Tn) (s:Stp) {ad:Option Addr} {c:Nat} (l:List Wt) (h:inS s) (h2:inT t) (hl:l.length≤1000000) (w:World) (ht:Tab w):Calls Tryz.prog 27 #[.agg #[.int .i64 t.co,.int .i64 t.li,.int .i64 t.sq,.int .i64 s.w,.int .i64 s.l,.int .i64 s.n,.slice ad l.length c]] w fun e w'=>e = .returned (.string ⟨(hdT t s l.length).toArray⟩)∧Ext No w w':=by
  have R:Ro w No _:=Ro.of fun w' x=>Tab.ext ht x;have z0:=stpT_len h;have z1:=tnT_len h2;have z2:=itoa_len (l.length:Int) (by omega) (by omega);refine calls_into func27 rfl ntmps27 rfl fun _ T=> ?_;replace T:=T.keep [0] rfl;have H:Sx.Hp w (Sx.No) w []:=Sx.Hp.start _ _;refine sj (zz 0 [uu,tt]) rfl fun _ Q1=>?_;refine st_eff T rfl rfl rfl rfl (y_box T rfl rfl rfl _) ?_;clear T;rintro _ w1 ⟨b1,rfl,N⟩ a T;replace H:=H.new N;clear N;refine asn T rfl fun _ T=> ?_;revert Q1 T;refine rq [2,1,0] rfl fun _ Q2 T=>?_;revert H;refine drw (Sx.No) [(0,.take),(1,.held),(5,.take),(6,.held),(10,.take),(11,.held),(12,.take),(2,.keep),(3,.take),(4,.take),(7,.keep),(8,.take),(9,.take),(13,.run),(14,.take),(15,.take)] (by kernel_rfl) (by kernel_rfl) fun u H hH=>?_;have Hu:=H;refine fad T fa31_1 rfl fun _ T=> ?_;refine hed T rfl hH (fun w' h'=>y_loadS T rfl underlying28 ti28 rfl ((Hu.heldB 0 rfl h' off_No).seg (k:=3) rfl) (by rfl)) fun _ T=> fad T fa31_0 rfl fun _ T=> ?_
  refine hed T rfl hH (fun w' h'=>y_loadS T rfl underlying26 ti26 rfl ((Hu.heldB 0 rfl h' off_No).seg (k:=3) rfl) (by rfl)) fun _ T=> fad T fa31_2 rfl fun _ T=> ?_;refine hed T rfl hH (fun w' h'=>x_load1 T rfl fl29 rfl ((Hu.heldB 0 rfl h' off_No).nth rfl)) fun _ T=> tln T underlying29 rfl fun _ T=> ?_;refine calk T hH H can52 rfl (PrintS_calls s h _ (R.at H.ext)) fun w2 hH H _ T=> ?_;refine tct T rfl (by simp only [ll];omega) fun _ T=> ?_;refine tct T rfl (by simp only [ll];omega) fun _ T=> ?_;refine calk T hH H can53 rfl (numberT_calls t h2 _ (R.at H.ext)) fun w3 hH H _ T=> ?_;refine tct T rfl (by simp only [ll];omega) fun _ T=> ?_
  refine tct T rfl (by simp only [ll];omega) fun _ T=> ?_;refine cal T H can54 rfl (Itoa_calls (l.length:Int) (by omega) (by omega) _ (R.at H.ext)) fun w4 H _ T=> ?_;refine tct T rfl (by simp only [ll];omega) fun _ T=> asn T rfl fun _ T=> ?_;replace T:=T.keep [2,1,0] rfl;clear Hu hH;refine ser_calm ?_;refine then_normal (Q2 _ _ ?_);clear Q2;refine wp_ret ?_;refine dn Tryz.f27 T rfl ?_;refine ⟨congrArg (fun l:List UInt8=>Ending.returned (Value.string ⟨l.toArray⟩)) ?_,H.ext⟩;simp [hdT]
theorem xhead_calls (t:Tn) (s:Stp) {ad:Option Addr} {c:Nat} (l:List Wt) (h:inS s) (h2:inT t) (hl:l.length≤1000000) (w:World):Calls Tryz.prog 32 #[.agg #[.int .i64 t.co,.int .i64 t.li,.int .i64 t.sq,.int .i64 s.w,.int .i64 s.l,.int .i64 s.n,.slice ad l.length c]] w fun e w'=>e = .returned (.string ⟨(lin (hdT t s l.length)).toArray⟩)∧Ext No w w':=by
  have z0:=stpT_len h;have z1:=tnT_len h2;have z2:=itoa_len (l.length:Int) (by omega) (by omega);have y0:=itoa_len t.co h2.1.1 h2.1.2;have y1:=itoa_len t.li h2.2.1.1 h2.2.1.2;have y2:=itoa_len t.sq h2.2.2.1 h2.2.2.2;refine calls_into func32 rfl ntmps32 rfl fun _ T=> ?_;replace T:=T.keep [0] rfl;have H:Sx.Hp w (Sx.No) w []:=Sx.Hp.start _ _;refine sj (zz 0 [uu,tt]) rfl fun _ Q1=>?_;refine st_eff T rfl rfl rfl rfl (y_box T rfl rfl rfl _) ?_;clear T;rintro _ w1 ⟨b1,rfl,N⟩ a T;replace H:=H.new N;clear N;refine asn T rfl fun _ T=> ?_;revert Q1 T;refine rq [2,1,0] rfl fun _ Q2 T=>?_;revert H;refine drw (Sx.No) [(0,.take),(1,.take),(2,.held),(5,.take),(6,.take),(7,.held),(11,.take),(12,.take),(13,.held),(3,.keep),(4,.take),(8,.keep),(9,.take),(10,.take),(14,.run),(15,.take),(16,.take)] (by kernel_rfl) (by kernel_rfl) fun u H hH=>?_;have Hu:=H;refine fad T fa31_0 rfl fun _ T=> fad T fa26_0 rfl fun _ T=> ?_;refine hed T rfl hH (fun w' h'=>x_load1 T rfl fl3 rfl ((Hu.heldB 0 rfl h' off_No).nth rfl)) ?_
  clear T;intro a T;refine fad T fa31_0 rfl fun _ T=> fad T fa26_1 rfl fun _ T=> ?_;refine hed T rfl hH (fun w' h'=>x_load1 T rfl fl3 rfl ((Hu.heldB 0 rfl h' off_No).nth rfl)) fun _ T=> fad T fa31_0 rfl fun _ T=> fad T fa26_2 rfl fun _ T=> ?_;refine hed T rfl hH (fun w' h'=>x_load1 T rfl fl3 rfl ((Hu.heldB 0 rfl h' off_No).nth rfl)) fun _ T=> ?_;refine calk T hH H can63 rfl (Dec_calls t.co h2.1.1 h2.1.2 _) fun w2 hH H _ T=> ?_;refine tct T rfl (by simp only [ll];omega) fun _ T=> ?_;refine calk T hH H can63 rfl (Dec_calls t.li h2.2.1.1 h2.2.1.2 _) fun w3 hH H _ T=> ?_;refine tct T rfl (by simp only [ll];omega) fun _ T=> ?_
  refine tct T rfl (by simp only [ll];omega) fun _ T=> ?_;refine cal T H can63 rfl (Dec_calls t.sq h2.2.2.1 h2.2.2.2 _) fun w4 H _ T=> ?_;refine tct T rfl (by simp only [ll];omega) fun _ T=> asn T rfl fun _ T=> ?_;replace T:=T.keep [3,2,1,0] rfl;clear Hu hH;refine ser_calm ?_;revert Q2;refine nx fun _ Q3=>?_;revert H;refine drw (Sx.No) [(0,.take),(1,.held),(5,.take),(8,.take),(9,.held),(10,.take),(2,.keep),(3,.take),(4,.take),(6,.take),(7,.take),(11,.run),(12,.take),(13,.take),(14,.take)] (by kernel_rfl) (by kernel_rfl) fun u H hH=>?_;have Hu:=H;refine fad T fa31_1 rfl fun _ T=> ?_;refine hed T rfl hH (fun w' h'=>y_loadS T rfl underlying28 ti28 rfl ((Hu.heldB 0 rfl h' off_No).seg (k:=3) rfl) (by rfl)) fun _ T=> mv T rfl fun _ T=> ?_
  refine fad T fa31_2 rfl fun _ T=> ?_;refine hed T rfl hH (fun w' h'=>x_load1 T rfl fl29 rfl ((Hu.heldB 0 rfl h' off_No).nth rfl)) fun _ T=> tln T underlying29 rfl fun _ T=> ?_;refine calk T hH H can64 rfl (xPrintS_calls s h _) fun w5 hH H _ T=> ?_;refine tct T rfl (by simp only [ll];omega) fun _ T=> ?_;refine tct T rfl (by simp only [ll];omega) fun _ T=> ?_;refine tct T rfl (by simp only [ll];omega) fun _ T=> ?_;refine tct T rfl (by simp only [ll];omega) fun _ T=> ?_;refine cal T H can63 rfl (Dec_calls (l.length:Int) (by omega) (by omega) _) fun w6 H _ T=> ?_;refine tct T rfl (by simp only [ll];omega) ?_
  clear T;intro a T;refine tct T rfl (by simp only [ll];omega) fun _ T=> asn T rfl fun _ T=> ?_;replace T:=T.keep [2,3,1,0] rfl;clear Hu hH;refine ser_calm ?_;refine then_normal (Q3 _ _ ?_);clear Q3;refine wp_ret ?_;refine dn Tryz.f32 T rfl ?_;refine ⟨congrArg (fun l:List UInt8=>Ending.returned (Value.string ⟨l.toArray⟩)) ?_,H.ext⟩;simp [hdT,tnT,dot3,lin]
theorem line_calls (x:Wt) (hn:x.v.num < 18446744073709551616) (hk:x.key.length≤100000) (hv:x.v.tx.length≤100000) (w:World) (ht:Env w):Calls Tryz.prog 28 #[.agg #[.string ⟨x.key.toArray⟩,.int .i64 x.v.k,.float .f64 x.v.num,.string ⟨x.v.tx.toArray⟩]] w fun e w'=>e = .returned (.string ⟨(wrT x).toArray⟩)∧Ext No w w':=by
  have R:Ro w No _:=Ro.of fun w' x=>Env.ext ht x;have z0:=quote_le x.key;have z1:=printV_le hv;refine calls_into func28 rfl ntmps28 rfl fun _ T=> ?_;replace T:=T.keep [0] rfl;have H:Sx.Hp w (Sx.No) w []:=Sx.Hp.start _ _;refine sj (zz 0 [uu,tt]) rfl fun _ Q1=>?_;refine st_eff T rfl rfl rfl rfl (y_box T rfl rfl rfl _) ?_;clear T;rintro _ w1 ⟨b1,rfl,N⟩ a T;replace H:=H.new N;clear N;refine asn T rfl fun _ T=> ?_;revert Q1 T;refine rq [2,1,0] rfl fun _ Q2 T=>?_;refine sj (zz 0 [tt,tt,uu,tt]) rfl fun _ Q3=>?_;refine fad T fa53_1 rfl fun _ T=> fad T fa51_0 rfl fun _ T=> tld T fl3 (H.blk 0 rfl) rfl fun _ T=> teq T rfl fun _ T=> ?_;revert Q3 T;refine rif [6,2,1,0] rfl (fun T hc4=>?_) (fun T hc4=>?_)
  · try simp only [bq] at hc4
    refine sj (zz 0 [tt,uu,uu,tt,tt]) rfl fun _ Q5=>?_;refine fad T fa53_0 rfl fun _ T=> tld T fl9 (H.blk 0 rfl) rfl fun _ T=> ?_;refine cal T H can55 rfl (Quote_calls x.key _ hk) fun w2 H _ T=> ?_;refine tct T rfl (by simp only [ll];omega) fun _ T=> asn T rfl fun _ T=> ?_;revert Q5 T;refine rp [2,6,1,0] rfl fun T=>?_;refine wp_ret <| then_ret ?_;refine dn Tryz.f28 T rfl ?_;refine ⟨congrArg (fun l:List UInt8=>Ending.returned (Value.string ⟨l.toArray⟩)) ?_,H.ext⟩;unfold wrT;rw [if_pos (by omega)];simp [lin]
  try simp only [bq] at hc4
  refine wp_skip ?_;revert Q2;refine nx fun _ Q6=>?_;revert H;refine drw (Sx.No) [(0,.take),(1,.held),(5,.take),(6,.held),(2,.keep),(3,.take),(4,.take),(7,.run),(8,.take),(9,.take)] (by kernel_rfl) (by kernel_rfl) fun u H hH=>?_;have Hu:=H;refine fad T fa53_0 rfl fun _ T=> ?_;refine hed T rfl hH (fun w' h'=>x_load1 T rfl fl9 rfl ((Hu.heldB 0 rfl h' off_No).nth rfl)) fun _ T=> fad T fa53_1 rfl fun _ T=> ?_;refine hed T rfl hH (fun w' h'=>y_loadS T rfl underlying51 ti51 rfl ((Hu.heldB 0 rfl h' off_No).seg (k:=3) rfl) (by rfl)) fun _ T=> ?_;refine calk T hH H can55 rfl (Quote_calls x.key _ hk) fun w3 hH H _ T=> ?_;refine tct T rfl (by simp only [ll];omega) fun _ T=> ?_;refine tct T rfl (by simp only [ll];omega) fun _ T=> ?_
  refine cal T H can56 rfl (PrintV_calls x.v hn hv _ (R.at H.ext)) fun w4 H _ T=> ?_;refine tct T rfl (by simp only [ll];omega) fun _ T=> asn T rfl fun _ T=> ?_;replace T:=T.keep [2,6,1,0] rfl;clear Hu hH;refine ser_calm ?_;refine then_normal (Q6 _ _ ?_);clear Q6;refine wp_ret ?_;refine dn Tryz.f28 T rfl ?_;refine ⟨congrArg (fun l:List UInt8=>Ending.returned (Value.string ⟨l.toArray⟩)) ?_,H.ext⟩;unfold wrT;rw [if_neg (by omega)];simp [lin]
theorem xline_calls (x:Wt) (hn:x.v.num < 18446744073709551616) (hk:x.key.length≤100000) (hv:x.v.tx.length≤100000) (w:World):Calls Tryz.prog 33 #[.agg #[.string ⟨x.key.toArray⟩,.int .i64 x.v.k,.float .f64 x.v.num,.string ⟨x.v.tx.toArray⟩]] w fun e w'=>e = .returned (.string ⟨(lin (wrT x)).toArray⟩)∧Ext No w w':=by
  have z0:=quote_le x.key;have z1:=printV_le hv;refine calls_into func33 rfl ntmps33 rfl fun _ T=> ?_;replace T:=T.keep [0] rfl;have H:Sx.Hp w (Sx.No) w []:=Sx.Hp.start _ _;refine sj (zz 0 [uu,tt]) rfl fun _ Q1=>?_;refine st_eff T rfl rfl rfl rfl (y_box T rfl rfl rfl _) ?_;clear T;rintro _ w1 ⟨b1,rfl,N⟩ a T;replace H:=H.new N;clear N;refine asn T rfl fun _ T=> ?_;revert Q1 T;refine rq [2,1,0] rfl fun _ Q2 T=>?_;refine sj (zz 0 [tt,tt,uu,tt]) rfl fun _ Q3=>?_;refine fad T fa53_1 rfl fun _ T=> fad T fa51_0 rfl fun _ T=> tld T fl3 (H.blk 0 rfl) rfl fun _ T=> teq T rfl fun _ T=> ?_;revert Q3 T;refine rif [6,2,1,0] rfl (fun T hc4=>?_) (fun T hc4=>?_)
  · try simp only [bq] at hc4
    refine sj (zz 0 [tt,uu,uu,tt,tt,tt]) rfl fun _ Q5=>?_;refine fad T fa53_0 rfl fun _ T=> tld T fl9 (H.blk 0 rfl) rfl fun _ T=> ?_;refine cal T H can65 rfl (xQuote_calls x.key _ hk) fun w2 H _ T=> ?_;refine tct T rfl (by simp only [ll];omega) fun _ T=> ?_;refine tct T rfl (by simp only [ll];omega) fun _ T=> asn T rfl fun _ T=> ?_;revert Q5 T;refine rp [2,6,1,0] rfl fun T=>?_;refine wp_ret <| then_ret ?_;refine dn Tryz.f33 T rfl ?_;refine ⟨congrArg (fun l:List UInt8=>Ending.returned (Value.string ⟨l.toArray⟩)) ?_,H.ext⟩;unfold wrT;rw [if_pos (by omega)];simp [lin]
  try simp only [bq] at hc4
  refine wp_skip ?_;revert Q2;refine nx fun _ Q6=>?_;revert H;refine drw (Sx.No) [(0,.take),(1,.held),(5,.take),(6,.held),(2,.keep),(3,.take),(4,.take),(7,.run),(8,.take),(9,.take),(10,.take)] (by kernel_rfl) (by kernel_rfl) fun u H hH=>?_;have Hu:=H;refine fad T fa53_0 rfl fun _ T=> ?_;refine hed T rfl hH (fun w' h'=>x_load1 T rfl fl9 rfl ((Hu.heldB 0 rfl h' off_No).nth rfl)) fun _ T=> fad T fa53_1 rfl fun _ T=> ?_;refine hed T rfl hH (fun w' h'=>y_loadS T rfl underlying51 ti51 rfl ((Hu.heldB 0 rfl h' off_No).seg (k:=3) rfl) (by rfl)) fun _ T=> ?_;refine calk T hH H can65 rfl (xQuote_calls x.key _ hk) fun w3 hH H _ T=> ?_;refine tct T rfl (by simp only [ll];omega) fun _ T=> ?_;refine tct T rfl (by simp only [ll];omega) fun _ T=> ?_
  refine cal T H can66 rfl (xPrintV_calls x.v hn hv _) fun w4 H _ T=> ?_;refine tct T rfl (by simp only [ll];omega) fun _ T=> ?_;refine tct T rfl (by simp only [ll];omega) fun _ T=> asn T rfl fun _ T=> ?_;replace T:=T.keep [2,6,1,0] rfl;clear Hu hH;refine ser_calm ?_;refine then_normal (Q6 _ _ ?_);clear Q6;refine wp_ret ?_;refine dn Tryz.f33 T rfl ?_;refine ⟨congrArg (fun l:List UInt8=>Ending.returned (Value.string ⟨l.toArray⟩)) ?_,H.ext⟩;unfold wrT;rw [if_neg (by omega)];simp [lin]
theorem may_calls (t:Tn) (s:Stp) {ad:Option Addr} {c:Nat} (l:List Wt) {w:World} (hs:Ss w ad Wt.cells 4 l) (hl:l.length≤1000000):Calls Tryz.prog 24 #[.agg #[.int .i64 t.co,.int .i64 t.li,.int .i64 t.sq,.int .i64 s.w,.int .i64 s.l,.int .i64 s.n,.slice ad l.length c]] w fun e w'=>e = .returned (.bool (emay t s l))∧Ext No w w':=by
  have R:Ro w No _:=Ro.of fun w' x=>hs.ext_no x;refine calls_into func24 rfl ntmps24 rfl fun _ T=> ?_;replace T:=T.keep [0] rfl;have H:Sx.Hp w (Sx.No) w []:=Sx.Hp.start _ _;refine sj (zz 0 [uu,tt]) rfl fun _ Q1=>?_;refine st_eff T rfl rfl rfl rfl (y_box T rfl rfl rfl _) ?_;clear T;rintro _ w1 ⟨b1,rfl,N⟩ a T;replace H:=H.new N;clear N;refine asn T rfl fun _ T=> ?_;revert Q1 T;refine rg [2,1,0] (zz 0 [tt,uu,tt,uu,tt,uu,tt,uu,tt,tt]) rfl fun _ Q2 T=>?_;refine fad T fa31_0 rfl fun _ T=> ?_;refine rn T rfl (y_loadS T rfl underlying26 ti26 rfl ((H.blk 0 rfl).seg (k:=3) rfl) (by rfl)) fun _ T=> fad T fa31_1 rfl fun _ T=> ?_;refine rn T rfl (y_loadS T rfl underlying28 ti28 rfl ((H.blk 0 rfl).seg (k:=3) rfl) (by rfl)) fun _ T=> fad T fa31_2 rfl fun _ T=> tld T fl29 (H.blk 0 rfl) rfl fun _ T=> bd T bld89 rfl ?_
  clear T;intro a T;refine cal T H can50 rfl (PendingMay_calls t s [] l (Ss.nil _ kc 1) (R.at H.ext) (by decide) hl) fun w2 H _ T=> teq T rfl fun _ T=> asn T rfl fun _ T=> ?_;revert Q2 T;refine rp [2,1,0] rfl fun T=>?_;refine wp_ret ?_;refine dn Tryz.f24 T rfl ?_;exact ⟨by rw [← pmay_emay],H.ext⟩
def tabC (k:Nat):List Value:=(List.range k).map (fun i=>.int .u32 ((crcN 8 i:Nat):Int))++List.replicate (256 - k) (.int .u32 0)
theorem tabC_len {k:Nat} (h:k≤256):(tabC k).length = 256:=by
  unfold tabC
  rw [List.length_append,List.length_map,List.length_range,List.length_replicate]
  omega
theorem tabC_set {k:Nat} (h:k < 256):(tabC k).set k (.int .u32 ((crcN 8 k:Nat):Int)) = tabC (k + 1):=by
  unfold tabC
  rw [List.set_append_right _ _ (by rw [List.length_map,List.length_range];exact Nat.le_refl _),List.length_map,List.length_range,Nat.sub_self,show 256 - k = (256 - (k + 1)) + 1 from by omega,List.replicate_succ,List.set_cons_zero,List.range_succ,List.map_append,List.append_assoc]
  rfl
theorem tabC_at {j:Nat} (h:j < 256):(tabC 256)[j]? = some (.int .u32 ((crcN 8 j:Nat):Int)):=by
  unfold tabC
  rw [List.getElem?_append_left (by rw [List.length_map,List.length_range];exact h),List.getElem?_map,List.getElem?_range h]
  rfl
theorem tabC_one (k:Nat):∀ v ∈ tabC k,v.oneCell' = true:=by
  intro v hv
  unfold tabC at hv
  rcases List.mem_append.1 hv with h | h
  · obtain ⟨i,-,rfl⟩:=List.mem_map.1 h
    rfl
  rw [(List.mem_replicate.1 h).2]
  rfl
theorem crc_bit (q:Nat):q / 2 ^ 1 ^^^ (2197175160 &&& 4294967295 * (q % 2)) = crcS q:=by
  unfold crcS poly
  rcases Nat.mod_two_eq_zero_or_one q with h | h
  · rw [h,if_neg (by decide)]
    rfl
  rw [h,if_pos rfl]
  rfl
theorem neg_bit (q:Nat):IntKind.u32.wrap (0 - ((q &&& 1:Nat):Int)) = ((4294967295 * (q % 2):Nat):Int):=by
  rw [Nat.and_one_is_mod]
  rcases Nat.mod_two_eq_zero_or_one q with h | h <;> rw [h] <;> decide
set_option maxRecDepth 4000 in
theorem table_calls (w:World):Calls Tryz.prog 90 #[] w fun e w'=>e = .returned (.agg (tabC 256).toArray)∧Ext No w w':=by
  refine calls_into func90 rfl ntmps90 rfl fun _ T=> ?_;replace T:=T.keep [] rfl;have H:Sx.Hp w (Sx.No) w []:=Sx.Hp.start _ _;refine sj (zz 0 [uu]) rfl fun _ Q1=>?_;refine st_eff T rfl rfl rfl rfl (y_alloc T rfl ti119 rfl _) ?_;clear T;rintro _ w1 ⟨b1,rfl,N⟩ a T;replace H:=H.new N;clear N;revert Q1 T;refine rg [0] (zz 0 [uu]) rfl fun _ Q2 T=>?_;refine st_eff T rfl rfl rfl rfl (y_alloc T rfl ti119 rfl _) ?_;clear T;rintro _ w2 ⟨b2,rfl,N⟩ a T;replace H:=H.new N;clear N;revert Q2 T;refine rq [1,0] rfl fun _ Q3 T=>?_;refine sj (zz 0 [tt]) rfl fun _ Q4=>?_;refine mv T rfl fun _ T=> ?_;revert Q4 T;refine rp [4,1,0] rfl fun T=>?_;refine wp_block ?_;refine wp_loopH (G:=Nat) (fun k=>[(4,.int .i64 (k:Int))]) (fun k=>[cB b2 (tabC k) 119]) (fun k=>k≤256) (fun k=>256 - k) 0 (T.keep [4,1,0] rfl) (H.keep [0,1] rfl rfl) (Nat.zero_le _) ?_;clear T H;rintro k a w3 hJ T H;replace T:=T.keep [4,1,0] rfl;replace H:=H.keep [0,1] rfl rfl;have hk:k≤256:=hJ;refine sj (zz 0 [tt]) rfl fun _ Q5=>?_;refine tlt T rfl ?_
  clear T;intro a T;revert Q5 T;refine rq [5,4,1,0] rfl fun _ Q6 T=>?_;refine wp_if T rfl (fun hc7=>?_) (fun hc7=>?_)
  · try simp only [bq] at hc7
    refine wp_skip ?_;revert Q6;refine nx fun _ Q8=>?_;refine wp_block ?_;refine sj (zz 0 [tt,tt]) rfl fun _ Q9=>?_;refine mv T rfl fun _ T=> asn T rfl fun _ T=> ?_;revert Q9 T;refine rg [2,5,4,1,0] (zz 0 [tt,tt,tt]) rfl fun _ Q10 T=>?_;refine mv T rfl fun _ T=> ?_;refine tk T rfl ((fun w=>x_toint w T rfl underlying3 underlying69 rfl (wrap_u32 (by omega)))) fun _ T=> asn T rfl fun _ T=> ?_;revert Q10 T;refine rq [3,2,5,4,1,0] rfl fun _ Q11 T=>?_;refine sj (zz 0 [tt]) rfl fun _ Q12=>?_;refine mv T rfl fun _ T=> ?_;revert Q12 T;refine rp [9,3,2,5,4,1,0] rfl fun T=>?_;refine wp_block ?_;refine wp_loopH (G:=Nat) (fun j=>[(9,.int .i64 (j:Int)),(3,.int .u32 ((crcN j k:Nat):Int))]) (fun j=>[]) (fun j=>j≤8) (fun j=>8 - j) 0 (T.keep [9,3,2,5,4,1,0] rfl) (H.keep [0,1] rfl rfl) (Nat.zero_le _) ?_
    clear T H;rintro j a w4 hJ T H;replace T:=T.keep [9,3,2,5,4,1,0] rfl;replace H:=H.keep [0,1] rfl rfl;have hj:j≤8:=hJ;obtain ⟨q,hq⟩:∃ q,crcN j k = q:=⟨_,rfl⟩;have hql:q < 4294967296:=by rw [← hq];exact crcN_lt j (show k < 4294967296 by omega)
    rw [hq] at T;have hqt:(q:Int).tmod 2 = ((q % 2:Nat):Int):=by rw [Int.tmod_eq_emod_of_nonneg (by omega)];omega
    refine sj (zz 0 [tt]) rfl fun _ Q13=>?_;refine tlt T rfl fun _ T=> ?_;revert Q13 T;refine rq [10,9,3,2,5,4,1,0] rfl fun _ Q14 T=>?_;refine wp_if T rfl (fun hc15=>?_) (fun hc15=>?_)
    · try simp only [bq] at hc15
      refine wp_skip ?_;revert Q14;refine nx fun _ Q16=>?_;refine wp_block ?_;refine wp_text (zz 0 [tt,tt,tt,tt,tt,tt,tt,tt]) rfl ?_;refine mv T rfl fun _ T=> ?_;refine tk T rfl (x_kshr (p:=q) (s:=1) T rfl rfl rfl (by decide)) fun _ T=> mv T rfl fun _ T=> ?_;refine tk T rfl (x_kand (p:=q) (q:=1) T rfl rfl rfl rfl hql (by decide)) fun _ T=> ?_;refine tk T rfl (x_kneg T rfl rfl (neg_bit q)) fun _ T=> ?_;refine tk T rfl (x_kand (p:=2197175160) (q:=4294967295 * (q % 2)) T rfl rfl rfl rfl (by decide) (show 4294967295 * (q % 2) < 4294967296 by omega)) fun _ T=> ?_;refine tk T rfl (x_kxor (p:=q / 2 ^ 1) (q:=2197175160 &&& 4294967295 * (q % 2)) T rfl rfl rfl rfl (show q / 2 ^ 1 < 4294967296 by omega) (show 2197175160 &&& 4294967295 * (q % 2) < 4294967296 from Nat.lt_of_le_of_lt Nat.and_le_left (by decide))) fun _ T=> asn T rfl fun _ T=> ?_;replace T:=T.keep [3,10,9,2,5,4,1,0] rfl;refine ser_nil ?_;refine block_normal ?_;refine then_normal (Q16 _ _ ?_);clear Q16;refine wp_text (zz 0 [tt,tt]) rfl ?_
      refine tad T rfl (by omega) fun _ T=> mv T rfl fun _ T=> ?_;replace T:=T.keep [9,3,10,2,5,4,1,0] rfl;refine ser_nil ?_;refine then_normal ?_;exact ⟨j + 1,(by omega),((T.keep [9,3,2,5,4,1,0] rfl).conv (by rw [crc_bit,← hq,← crcN_snoc];rfl)),(H.keep [0,1] rfl rfl),by omega⟩
    try simp only [bq] at hc15
    obtain rfl:j = 8:=by omega
    subst hq;refine wp_exit <| then_exit ?_;refine then_exit <| block_exit ?_;refine then_normal (Q11 _ _ ?_);clear Q11;refine wp_text (zz 0 [tt,tt,tt,uu]) rfl ?_;refine mv T rfl fun _ T=> mv T rfl fun _ T=> ?_;refine tk T rfl (x_indexAddr_array (k:=k) T rfl underlying119 ti69 rfl rfl rfl (by omega)) fun _ T=> ?_;refine st_act T rfl rfl rfl (x_store1 T rfl ti69 rfl rfl rfl (H.blk 0 rfl) (by rw [tabC_len (by omega)];omega)) ?_;rintro w5 ⟨hb,E,_⟩;replace H:=H.setB 0 rfl hb E rfl;clear hb E;rw [Nat.zero_add,Nat.mul_one,tabC_set (by omega)] at H;replace T:=T.keep [10,9,3,2,5,4,1,0] rfl;refine ser_nil ?_;refine block_normal ?_;refine then_normal (Q8 _ _ ?_);clear Q8;refine wp_text (zz 0 [tt,tt]) rfl ?_;refine tad T rfl (by omega) fun _ T=> mv T rfl fun _ T=> ?_;replace T:=T.keep [4,10,9,3,2,5,1,0] rfl;refine ser_nil ?_;refine then_normal ?_;exact ⟨k + 1,(by omega),(T.keep [4,1,0] rfl),(H.keep [0,1] rfl rfl),by omega⟩
  try simp only [bq] at hc7
  obtain rfl:k = 256:=by omega
  refine wp_exit <| then_exit ?_;refine then_exit <| block_exit ?_;revert Q3;refine nx fun _ Q17=>?_;refine wp_text (zz 0 [uu,uu]) rfl ?_;refine rn T rfl (y_loadA T rfl underlying119 ti119 rfl (H.blk 0 rfl) (tabC_len (Nat.le_refl _))) fun _ T=> ?_;refine st_act T rfl rfl rfl (y_storeA T rfl ti119 rfl rfl (H.blk 1 rfl) rfl (tabC_len (Nat.le_refl _)) (tabC_one _)) ?_;rintro w6 ⟨hb,E,_⟩;replace H:=H.setB 1 rfl hb E rfl;clear hb E;revert Q17 T;refine rp [5,4,1,0] rfl fun T=>?_;refine wp_ret ?_;refine done1 (fn:=Tryz.f90) T rfl (.cell (T.get 0 _ rfl) (Sx.run_resA underlying119 ti119 (H.blk 1 rfl) (tabC_len (Nat.le_refl _)))) ?_;exact ⟨rfl,H.ext⟩
theorem xSum_calls {ad:Option Addr} {c:Nat} (l:List UInt8) {w:World} (hs:Bs w ad l) (hl:l.length≤100000000):Calls Tryz.prog 35 #[.slice ad l.length c] w fun e w'=>e = .returned (.int .u32 ((crc l:Nat):Int))∧Ext No w w':=by
  have R:Ro w No _:=Ro.of fun w' x=>hs.ext_no x;refine calls_into func35 rfl ntmps35 rfl fun _ T=> ?_;replace T:=T.keep [0] rfl;have H:Sx.Hp w (Sx.No) w []:=Sx.Hp.start _ _;refine sj (zz 0 [tt]) rfl fun _ Q1=>?_;refine asn T rfl fun _ T=> ?_;revert Q1 T;refine rg [2,0] (zz 0 [tt]) rfl fun _ Q2 T=>?_;refine asn T rfl fun _ T=> ?_;revert Q2 T;refine rq [3,2,0] rfl fun _ Q3 T=>?_;refine sj (zz 0 [tt]) rfl fun _ Q4=>?_;refine asn T rfl fun _ T=> ?_;revert Q4 T;refine rp [4,3,2,0] rfl fun T=>?_;refine wp_block ?_;refine wp_loopH (G:=Nat) (fun k=>[(4,.int .i64 (k:Int)),(3,.int .u32 ((crcF (l.take k) 4294967295:Nat):Int))]) (fun k=>[]) (fun k=>k≤l.length) (fun k=>l.length - k) 0 (T.keep [4,3,2,0] rfl) (H.keep [] rfl rfl) (Nat.zero_le _) ?_;clear T H;rintro k a w1 hJ T H;replace T:=T.keep [4,3,2,0] rfl;replace H:=H.keep [] rfl rfl;have hk:k≤l.length:=hJ;obtain ⟨p,hp⟩:∃ p,crcF (l.take k) 4294967295 = p:=⟨_,rfl⟩;have hpl:p < 4294967296:=by rw [← hp];exact crcF_lt (by decide)
  rw [hp] at T;refine wp_seq_k fun _ Q5=>?_;refine sj (zz 0 [tt,tt,tt,tt]) rfl fun _ Q6=>?_;refine mv T rfl fun _ T=> mv T rfl fun _ T=> tln T underlying39 rfl fun _ T=> tlt T rfl fun _ T=> ?_;revert Q6 T;refine rif [9,4,3,2,0] rfl (fun T hc7=>?_) (fun T hc7=>?_)
  · try simp only [bq] at hc7
    obtain ⟨o,ho⟩:∃ q9,l[k]? = some q9:=⟨_,List.getElem?_eq_getElem (by omega)⟩;have hob:=o.toNat_lt;have hpx:p ^^^ o.toNat < 4294967296:=xlt hpl (byte4 o);refine wp_skip ?_;revert Q5;refine nx fun _ Q8=>?_;refine wp_block ?_;refine sj (zz 0 [tt,tt,tt,tt,uu,tt,tt,tt]) rfl fun _ Q9=>?_;refine mv T rfl fun _ T=> mv T rfl fun _ T=> mv T rfl fun _ T=> ?_;refine tk T rfl (x_index (k:=k) T rfl underlying39 ti5 (R.at H.ext).sv rfl rfl (by first | rfl | omega) (by omega)) fun _ T=> ?_;refine rn T rfl (x_load1 T rfl fl5 rfl ((R.at H.ext).cell ho)) fun _ T=> ?_;refine tk T rfl ((fun w=>x_toint w T rfl underlying5 underlying69 rfl (wrap_u32 (by omega)))) fun _ T=> ?_;refine tk T rfl (x_kxor (p:=p) (q:=o.toNat) T rfl rfl rfl rfl hpl (byte4 o)) fun _ T=> asn T rfl fun _ T=> ?_;revert Q9 T;refine rg [3,9,4,2,0] (zz 0 [tt]) rfl fun _ Q10 T=>?_
    refine asn T rfl fun _ T=> ?_;revert Q10 T;refine rp [5,3,9,4,2,0] rfl fun T=>?_;refine wp_block ?_;refine wp_loopH (G:=Nat) (fun j=>[(5,.int .i64 (j:Int)),(3,.int .u32 ((crcN j (p ^^^ o.toNat):Nat):Int))]) (fun j=>[]) (fun j=>j≤8) (fun j=>8 - j) 0 (T.keep [5,3,9,4,2,0] rfl) (H.keep [] rfl rfl) (Nat.zero_le _) ?_;clear T H;rintro j a w2 hJ T H;replace T:=T.keep [5,3,9,4,2,0] rfl;replace H:=H.keep [] rfl rfl;have hj:j≤8:=hJ;obtain ⟨q,hq⟩:∃ q,crcN j (p ^^^ o.toNat) = q:=⟨_,rfl⟩;have hql:q < 4294967296:=by rw [← hq];exact crcN_lt j hpx
    rw [hq] at T;have hqt:(q:Int).tmod 2 = ((q % 2:Nat):Int):=by rw [Int.tmod_eq_emod_of_nonneg (by omega)];omega
    refine wp_seq_k fun _ Q11=>?_;refine sj (zz 0 [tt,tt]) rfl fun _ Q12=>?_;refine mv T rfl fun _ T=> tlt T rfl fun _ T=> ?_;revert Q12 T;refine rif [20,5,3,9,4,2,0] rfl (fun T hc13=>?_) (fun T hc13=>?_)
    · try simp only [bq] at hc13
      refine wp_skip ?_;revert Q11;refine nx fun _ Q14=>?_;refine wp_block ?_;refine sj (zz 0 [tt,tt,tt]) rfl fun _ Q15=>?_;refine mv T rfl fun _ T=> ?_;refine tk T rfl ((fun w=>x_rem w T rfl rfl rfl (by omega))) fun _ T=> teq T rfl fun _ T=> ?_;revert Q15 T;refine rif [25,20,5,3,9,4,2,0] rfl (fun T hc16=>?_) (fun T hc16=>?_)
      · try simp only [bq] at hc16
        refine wp_text (zz 0 [tt,tt,tt,tt]) rfl ?_;refine mv T rfl fun _ T=> ?_;refine tk T rfl (x_kshr (p:=q) (s:=1) T rfl rfl rfl (by decide)) fun _ T=> ?_;refine tk T rfl (x_kxor (p:=q / 2 ^ 1) (q:=2197175160) T rfl rfl rfl rfl (show q / 2 ^ 1 < 4294967296 by omega) (by decide)) fun _ T=> asn T rfl fun _ T=> ?_;replace T:=T.keep [3,25,20,5,9,4,2,0] rfl;refine ser_nil ?_;refine block_normal ?_;refine then_normal (Q14 _ _ ?_);clear Q14;refine wp_text (zz 0 [tt,tt,tt]) rfl ?_;refine mv T rfl fun _ T=> tad T rfl (by omega) fun _ T=> asn T rfl fun _ T=> ?_;replace T:=T.keep [5,3,25,20,9,4,2,0] rfl;refine ser_nil ?_;refine then_normal ?_;exact ⟨j + 1,(by omega),((T.keep [5,3,9,4,2,0] rfl).conv (by rw [crcN_snoc,hq];unfold crcS;rw [if_pos (by omega)];rfl)),(H.keep [] rfl rfl),by omega⟩
      try simp only [bq] at hc16
      refine wp_text (zz 0 [tt,tt,tt]) rfl ?_;refine mv T rfl fun _ T=> ?_;refine tk T rfl (x_kshr (p:=q) (s:=1) T rfl rfl rfl (by decide)) fun _ T=> asn T rfl fun _ T=> ?_;replace T:=T.keep [3,25,20,5,9,4,2,0] rfl;refine ser_nil ?_;refine block_normal ?_;refine then_normal (Q14 _ _ ?_);clear Q14;refine wp_text (zz 0 [tt,tt,tt]) rfl ?_;refine mv T rfl fun _ T=> tad T rfl (by omega) fun _ T=> asn T rfl fun _ T=> ?_;replace T:=T.keep [5,3,25,20,9,4,2,0] rfl;refine ser_nil ?_;refine then_normal ?_;exact ⟨j + 1,(by omega),((T.keep [5,3,9,4,2,0] rfl).conv (by rw [crcN_snoc,hq];unfold crcS;rw [if_neg (by omega),Nat.xor_zero];rfl)),(H.keep [] rfl rfl),by omega⟩
    try simp only [bq] at hc13
    obtain rfl:j = 8:=by omega
    refine wp_exit <| then_exit ?_;refine then_exit <| block_exit <| block_normal ?_;refine then_normal (Q8 _ _ ?_);clear Q8;refine wp_text (zz 0 [tt,tt,tt]) rfl ?_;refine mv T rfl fun _ T=> tad T rfl (by omega) fun _ T=> asn T rfl fun _ T=> ?_;replace T:=T.keep [4,20,5,3,9,2,0] rfl;refine ser_nil ?_;refine then_normal ?_;exact ⟨k + 1,(by omega),((T.keep [4,3,2,0] rfl).conv (by rw [crcF_snoc ho,hp];unfold crcB;rw [hq];rfl)),(H.keep [] rfl rfl),by omega⟩
  try simp only [bq] at hc7
  obtain rfl:k = l.length:=by omega
  refine wp_exit <| then_exit ?_;refine then_exit <| block_exit ?_;revert Q3;refine nx fun _ Q17=>?_;refine wp_text (zz 0 [tt,tt,tt]) rfl ?_;refine mv T rfl fun _ T=> ?_;refine tk T rfl (x_knot (p:=p) T rfl rfl rfl hpl) fun _ T=> asn T rfl fun _ T=> ?_;revert Q17 T;refine rp [2,9,4,3,0] rfl fun T=>?_;refine wp_ret ?_;refine dn Tryz.f35 T rfl ?_;refine ⟨congrArg (fun n:Nat=>Ending.returned (Value.int .u32 (n:Int))) ?_,H.ext⟩;unfold crc;rw [List.take_length] at hp;rw [hp];exact Nat.xor_comm _ _
theorem crc_byte (p:Nat) (o:UInt8):crcB p o.toNat = p / 2 ^ 8 ^^^ crcN 8 (p % 256 ^^^ o.toNat):=by
  have h:=o.toNat_lt
  unfold crcB
  rw [crc_table,show (256:Nat) = 2 ^ 8 from rfl,Nat.xor_div_two_pow,Nat.xor_mod_two_pow,Nat.div_eq_of_lt (show o.toNat < 2 ^ 8 from h),Nat.mod_eq_of_lt (show o.toNat < 2 ^ 8 from h),Nat.xor_zero]
theorem wrap_b (p:Nat):IntKind.u8.wrap (p:Int) = ((p % 256:Nat):Int):=by
  unfold IntKind.wrap
  dsimp only
  rw [show IntKind.u8.signed = false from rfl,Bool.false_and,if_neg (by decide)]
  show (p:Int) % 256 = _
  omega
theorem xor256 {p:Nat} (o:UInt8):p % 256 ^^^ o.toNat < 256:=Nat.xor_lt_two_pow (n:=8) (show p % 256 < 2 ^ 8 by omega) o.toNat_lt
theorem tabC_ix {j:Nat} (h:j < 256):(tabC 256)[0 + j * 1]? = some (.int .u32 ((crcN 8 j:Nat):Int)):=by
  rw [Nat.zero_add,Nat.mul_one]
  exact tabC_at h
set_option maxRecDepth 4000 in
theorem Sum_calls {ad:Option Addr} {c:Nat} (l:List UInt8) {w:World} (hs:Bs w ad l) (hl:l.length≤100000000):Calls Tryz.prog 57 #[.slice ad l.length c] w fun e w'=>e = .returned (.int .u32 ((crc l:Nat):Int))∧Ext No w w':=by
  have R:Ro w No _:=Ro.of fun w' x=>hs.ext_no x;refine calls_into func57 rfl ntmps57 rfl fun _ T=> ?_;replace T:=T.keep [0] rfl;have H:Sx.Hp w (Sx.No) w []:=Sx.Hp.start _ _;refine sj (zz 0 [tt]) rfl fun _ Q1=>?_;refine asn T rfl fun _ T=> ?_;revert Q1 T;refine rg [2,0] (zz 0 [tt]) rfl fun _ Q2 T=>?_;refine asn T rfl fun _ T=> ?_;revert Q2 T;refine rq [3,2,0] rfl fun _ Q3 T=>?_;refine sj (zz 0 [tt,tt,tt]) rfl fun _ Q4=>?_;refine mv T rfl fun _ T=> tln T underlying39 rfl fun _ T=> tlt T rfl fun _ T=> ?_;revert Q4 T;refine rif [11,3,2,0] rfl (fun T hc5=>?_) (fun T hc5=>?_)
  · try simp only [bq] at hc5
    refine wp_seq_k fun _ Q6=>?_;refine sj (zz 0 [tt,tt,tt]) rfl fun _ Q7=>?_;refine mv T rfl fun _ T=> tln T underlying39 rfl fun _ T=> mv T rfl fun _ T=> ?_;revert Q7 T;refine rp [14,13,12,11,3,2,0] rfl fun T=>?_;refine wp_block ?_;refine wp_loopH (G:=Nat) (fun k=>[(14,.int .i64 (k:Int)),(3,.int .u32 ((crcF (l.take k) 4294967295:Nat):Int))]) (fun k=>[]) (fun k=>k≤l.length) (fun k=>l.length - k) 0 (T.keep [14,3,13,12,11,2,0] rfl) (H.keep [] rfl rfl) (Nat.zero_le _) ?_;clear T H;rintro k a w1 hJ T H;replace T:=T.keep [14,3,13,12,11,2,0] rfl;replace H:=H.keep [] rfl rfl;have hk:k≤l.length:=hJ;obtain ⟨p,hp⟩:∃ p,crcF (l.take k) 4294967295 = p:=⟨_,rfl⟩;have hpl:p < 4294967296:=by rw [← hp];exact crcF_lt (by decide)
    rw [hp] at T;refine sj (zz 0 [tt]) rfl fun _ Q8=>?_;refine tlt T rfl fun _ T=> ?_;revert Q8 T;refine rq [15,14,3,13,12,11,2,0] rfl fun _ Q9 T=>?_;refine wp_if T rfl (fun hc10=>?_) (fun hc10=>?_)
    · try simp only [bq] at hc10
      obtain ⟨o,ho⟩:∃ q9,l[k]? = some q9:=⟨_,List.getElem?_eq_getElem (by omega)⟩;have hob:=o.toNat_lt;have hpx:p ^^^ o.toNat < 4294967296:=xlt hpl (byte4 o);refine wp_skip ?_;revert Q9;refine nx fun _ Q11=>?_;refine wp_block ?_;refine sj (zz 0 [tt,uu,tt]) rfl fun _ Q12=>?_;refine tk T rfl (x_index (k:=k) T rfl underlying39 ti5 (R.at H.ext).sv rfl rfl (by first | rfl | omega) (by omega)) fun _ T=> ?_;refine rn T rfl (x_load1 T rfl fl5 rfl ((R.at H.ext).cell ho)) fun _ T=> asn T rfl fun _ T=> ?_;revert Q12 T;refine rg [5,15,14,3,13,12,11,2,0] (zz 0 [tt,tt,tt,tt,tt]) rfl fun _ Q13 T=>?_;refine mv T rfl fun _ T=> mv T rfl fun _ T=> ?_;refine tk T rfl ((fun w=>x_toint w T rfl underlying5 underlying69 rfl (wrap_u32 (by omega)))) fun _ T=> ?_;refine tk T rfl (x_kxor (p:=p) (q:=o.toNat) T rfl rfl rfl rfl hpl (byte4 o)) fun _ T=> asn T rfl ?_
      clear T;intro a T;revert Q13 T;refine rg [3,5,15,14,13,12,11,2,0] (zz 0 [tt]) rfl fun _ Q14 T=>?_;refine mv T rfl fun _ T=> ?_;revert Q14 T;refine rp [22,3,5,15,14,13,12,11,2,0] rfl fun T=>?_;refine wp_block ?_;refine wp_loopH (G:=Nat) (fun j=>[(22,.int .i64 (j:Int)),(3,.int .u32 ((crcN j (p ^^^ o.toNat):Nat):Int))]) (fun j=>[]) (fun j=>j≤8) (fun j=>8 - j) 0 (T.keep [22,3,5,15,14,13,12,11,2,0] rfl) (H.keep [] rfl rfl) (Nat.zero_le _) ?_;clear T H;rintro j a w2 hJ T H;replace T:=T.keep [22,3,5,15,14,13,12,11,2,0] rfl;replace H:=H.keep [] rfl rfl;have hj:j≤8:=hJ;obtain ⟨q,hq⟩:∃ q,crcN j (p ^^^ o.toNat) = q:=⟨_,rfl⟩;have hql:q < 4294967296:=by rw [← hq];exact crcN_lt j hpx
      rw [hq] at T;have hqt:(q:Int).tmod 2 = ((q % 2:Nat):Int):=by rw [Int.tmod_eq_emod_of_nonneg (by omega)];omega
      refine sj (zz 0 [tt]) rfl fun _ Q15=>?_;refine tlt T rfl fun _ T=> ?_;revert Q15 T;refine rq [23,22,3,5,15,14,13,12,11,2,0] rfl fun _ Q16 T=>?_;refine wp_if T rfl (fun hc17=>?_) (fun hc17=>?_)
      · try simp only [bq] at hc17
        refine wp_skip ?_;revert Q16;refine nx fun _ Q18=>?_;refine wp_block ?_;refine wp_text (zz 0 [tt,tt,tt,tt,tt,tt,tt,tt]) rfl ?_;refine mv T rfl fun _ T=> ?_;refine tk T rfl (x_kshr (p:=q) (s:=1) T rfl rfl rfl (by decide)) fun _ T=> mv T rfl fun _ T=> ?_;refine tk T rfl (x_kand (p:=q) (q:=1) T rfl rfl rfl rfl hql (by decide)) fun _ T=> ?_;refine tk T rfl (x_kneg T rfl rfl (neg_bit q)) fun _ T=> ?_;refine tk T rfl (x_kand (p:=2197175160) (q:=4294967295 * (q % 2)) T rfl rfl rfl rfl (by decide) (show 4294967295 * (q % 2) < 4294967296 by omega)) fun _ T=> ?_;refine tk T rfl (x_kxor (p:=q / 2 ^ 1) (q:=2197175160 &&& 4294967295 * (q % 2)) T rfl rfl rfl rfl (show q / 2 ^ 1 < 4294967296 by omega) (show 2197175160 &&& 4294967295 * (q % 2) < 4294967296 from Nat.lt_of_le_of_lt Nat.and_le_left (by decide))) fun _ T=> asn T rfl fun _ T=> ?_;replace T:=T.keep [3,23,22,5,15,14,13,12,11,2,0] rfl;refine ser_nil ?_;refine block_normal ?_;refine then_normal (Q18 _ _ ?_);clear Q18;refine wp_text (zz 0 [tt,tt]) rfl ?_
        refine tad T rfl (by omega) fun _ T=> mv T rfl fun _ T=> ?_;replace T:=T.keep [22,3,23,5,15,14,13,12,11,2,0] rfl;refine ser_nil ?_;refine then_normal ?_;exact ⟨j + 1,(by omega),((T.keep [22,3,5,15,14,13,12,11,2,0] rfl).conv (by rw [crc_bit,← hq,← crcN_snoc];rfl)),(H.keep [] rfl rfl),by omega⟩
      try simp only [bq] at hc17
      obtain rfl:j = 8:=by omega
      refine wp_exit <| then_exit ?_;refine then_exit <| block_exit <| block_normal ?_;refine then_normal (Q11 _ _ ?_);clear Q11;refine wp_text (zz 0 [tt,tt]) rfl ?_;refine tad T rfl (by omega) fun _ T=> mv T rfl fun _ T=> ?_;replace T:=T.keep [14,23,22,3,5,15,13,12,11,2,0] rfl;refine ser_nil ?_;refine then_normal ?_;exact ⟨k + 1,(by omega),((T.keep [14,3,13,12,11,2,0] rfl).conv (by rw [crcF_snoc ho,hp];unfold crcB;rw [hq];rfl)),(H.keep [] rfl rfl),by omega⟩
    try simp only [bq] at hc10
    obtain rfl:k = l.length:=by omega
    refine wp_exit <| then_exit ?_;refine then_exit <| block_exit ?_;revert Q6;refine nx fun _ Q19=>?_;refine wp_text (zz 0 [tt,tt,tt]) rfl ?_;refine mv T rfl fun _ T=> ?_;refine tk T rfl (x_knot (p:=p) T rfl rfl rfl hpl) fun _ T=> asn T rfl fun _ T=> ?_;revert Q19 T;refine rp [2,15,14,3,13,12,11,0] rfl fun T=>?_;refine wp_ret <| then_ret ?_;refine dn Tryz.f57 T rfl ?_;refine ⟨congrArg (fun n:Nat=>Ending.returned (Value.int .u32 (n:Int))) ?_,H.ext⟩;unfold crc;rw [List.take_length] at hp;rw [hp];exact Nat.xor_comm _ _
  try simp only [bq] at hc5
  refine wp_skip ?_;revert Q3;refine nx fun _ Q20=>?_;refine wp_text (zz 0 [uu,uu,uu]) rfl ?_;refine cal T H can90 rfl (table_calls _) fun w3 H _ T=> ?_;refine st_eff T rfl rfl rfl rfl (y_alloc T rfl ti119 rfl _) ?_;clear T;rintro _ w4 ⟨b1,rfl,N⟩ a T;replace H:=H.new N;clear N;refine st_act T rfl rfl rfl (y_storeA T rfl ti119 rfl rfl (H.blk 0 rfl) rfl (tabC_len (Nat.le_refl _)) (tabC_one _)) ?_;rintro w5 ⟨hb,E,_⟩;replace H:=H.setB 0 rfl hb E rfl;clear hb E;revert Q20 T;refine rq [6,11,3,2,0] rfl fun _ Q21 T=>?_;refine sj (zz 0 [tt,tt,tt]) rfl fun _ Q22=>?_;refine mv T rfl fun _ T=> tln T underlying39 rfl fun _ T=> mv T rfl fun _ T=> ?_;revert Q22 T;refine rp [38,37,36,6,11,3,2,0] rfl fun T=>?_;refine wp_block ?_;refine wp_loopH (G:=Nat) (fun k=>[(38,.int .i64 (k:Int)),(3,.int .u32 ((crcF (l.take k) 4294967295:Nat):Int))]) (fun k=>[cB b1 (tabC 256) 119]) (fun k=>k≤l.length) (fun k=>l.length - k) 0 (T.keep [38,3,37,36,6,11,2,0] rfl) (H.keep [0] rfl rfl) (Nat.zero_le _) ?_
  clear T H;rintro k a w6 hJ T H;replace T:=T.keep [38,3,37,36,6,11,2,0] rfl;replace H:=H.keep [0] rfl rfl;have hk:k≤l.length:=hJ;obtain ⟨p,hp⟩:∃ p,crcF (l.take k) 4294967295 = p:=⟨_,rfl⟩;have hpl:p < 4294967296:=by rw [← hp];exact crcF_lt (by decide)
  rw [hp] at T;refine sj (zz 0 [tt]) rfl fun _ Q23=>?_;refine tlt T rfl fun _ T=> ?_;revert Q23 T;refine rq [39,38,3,37,36,6,11,2,0] rfl fun _ Q24 T=>?_;refine wp_if T rfl (fun hc25=>?_) (fun hc25=>?_)
  · try simp only [bq] at hc25
    obtain ⟨o,ho⟩:∃ q9,l[k]? = some q9:=⟨_,List.getElem?_eq_getElem (by omega)⟩;have hob:=o.toNat_lt;have hpx:p ^^^ o.toNat < 4294967296:=xlt hpl (byte4 o);have hxo:=xor256 (p:=p) o;refine wp_skip ?_;revert Q24;refine nx fun _ Q26=>?_;refine wp_block ?_;refine sj (zz 0 [tt,uu,tt]) rfl fun _ Q27=>?_;refine tk T rfl (x_index (k:=k) T rfl underlying39 ti5 (R.at H.ext).sv rfl rfl (by first | rfl | omega) (by omega)) fun _ T=> ?_;refine rn T rfl (x_load1 T rfl fl5 rfl (by first | exact ((H.blk 0 rfl).nth rfl) | exact ((R.at H.ext).cell ho))) fun _ T=> asn T rfl fun _ T=> ?_;revert Q27 T;refine rp [8,39,38,3,37,36,6,11,2,0] rfl fun T=>?_;refine wp_text (zz 0 [tt,tt,tt,tt,tt,tt,tt,uu,tt,tt]) rfl ?_;refine mv T rfl fun _ T=> ?_;refine tk T rfl (x_kshr (p:=p) (s:=8) T rfl rfl rfl (by decide)) fun _ T=> mv T rfl fun _ T=> ?_;refine tk T rfl ((fun w=>x_toint w T rfl underlying69 underlying5 rfl (wrap_b p))) ?_
    clear T;intro a T;refine mv T rfl fun _ T=> ?_;refine tk T rfl (x_kxor (p:=p % 256) (q:=o.toNat) T rfl rfl rfl rfl (show p % 256 < 256 by omega) hob) fun _ T=> ?_;refine tk T rfl (x_indexAddr_array (k:=(p % 256 ^^^ o.toNat)) T rfl underlying119 ti69 rfl rfl rfl (by omega)) fun _ T=> ?_;refine rn T rfl (x_load1 T rfl fl69 rfl ((H.blk 0 rfl).cell (tabC_ix (xor256 o)))) fun _ T=> ?_;refine tk T rfl (x_kxor (p:=p / 2 ^ 8) (q:=crcN 8 (p % 256 ^^^ o.toNat)) T rfl rfl rfl rfl (show p / 2 ^ 8 < 4294967296 by omega) (crcN_lt 8 (Nat.lt_trans (xor256 o) (by decide)))) fun _ T=> asn T rfl fun _ T=> ?_;replace T:=T.keep [3,8,39,38,37,36,6,11,2,0] rfl;refine ser_nil ?_;refine block_normal ?_;refine then_normal (Q26 _ _ ?_);clear Q26;refine wp_text (zz 0 [tt,tt]) rfl ?_;refine tad T rfl (by omega) fun _ T=> mv T rfl fun _ T=> ?_;replace T:=T.keep [38,3,8,39,37,36,6,11,2,0] rfl;refine ser_nil ?_;refine then_normal ?_;exact ⟨k + 1,(by omega),((T.keep [38,3,37,36,6,11,2,0] rfl).conv (by rw [crcF_snoc ho,hp,crc_byte];rfl)),(H.keep [0] rfl rfl),by omega⟩
  try simp only [bq] at hc25
  obtain rfl:k = l.length:=by omega
  refine wp_exit <| then_exit ?_;refine then_exit <| block_exit ?_;revert Q21;refine nx fun _ Q28=>?_;refine wp_text (zz 0 [tt,tt,tt]) rfl ?_;refine mv T rfl fun _ T=> ?_;refine tk T rfl (x_knot (p:=p) T rfl rfl rfl hpl) fun _ T=> asn T rfl fun _ T=> ?_;revert Q28 T;refine rp [2,39,38,3,37,36,6,11,0] rfl fun T=>?_;refine wp_ret ?_;refine dn Tryz.f57 T rfl ?_;refine ⟨congrArg (fun n:Nat=>Ending.returned (Value.int .u32 (n:Int))) ?_,H.ext⟩;unfold crc;rw [List.take_length] at hp;rw [hp];exact Nat.xor_comm _ _
def hxd (k:Nat):UInt8:=hexd.getD k 0
def hexD (u:Nat):List UInt8:=if h:u < 16 then [hxd u] else hexD (u / 16)++[hxd (u % 16)]
termination_by u
decreasing_by omega
theorem hexD_small {u:Nat} (h:u < 16):hexD u = [hxd u]:=by rw [hexD,dif_pos h]
theorem hexD_step {u:Nat} (h:¬ u < 16):hexD u = hexD (u / 16)++[hxd (u % 16)]:=by rw [hexD,dif_neg h]
def hexK:Nat→Nat→List UInt8
  | 0,_=>[]
  | k + 1,n=>hexK k (n / 16)++[hxd (n % 16)]
theorem hexK8 (n:Nat):hexK 8 n = hex8 n:=by
  simp only [hexK,hex8,hxd,List.nil_append,List.cons_append,Nat.div_div_eq_div_mul]
theorem hexK_zero:∀ k,hexK k 0 = List.replicate k 48
  | 0=>rfl
  | k + 1=>by
    rw [hexK,show 0 / 16 = 0 from rfl,hexK_zero k,List.replicate_succ']
    rfl
theorem hexD_len:∀ (k n:Nat),n < 16 ^ (k + 1)→(hexD n).length≤k + 1
  | 0,n,h=>by
    rw [hexD_small (by simpa using h)]
    exact Nat.le_refl _
  | k + 1,n,h=>by
    by_cases h1:n < 16
    · rw [hexD_small h1]
      exact Nat.succ_le_succ (Nat.zero_le _)
    rw [hexD_step h1,List.length_append]
    have:=hexD_len k (n / 16) (by rw [Nat.pow_succ] at h;omega)
    exact Nat.succ_le_succ this
theorem hexD_pos (n:Nat):0 < (hexD n).length:=by
  by_cases h1:n < 16
  · rw [hexD_small h1]
    exact Nat.succ_pos _
  rw [hexD_step h1,List.length_append]
  exact Nat.succ_pos _
theorem hexK_hexD:∀ (k n:Nat),n < 16 ^ (k + 1)→hexK (k + 1) n = List.replicate (k + 1 - (hexD n).length) 48++hexD n
  | k,n,h=>by
    by_cases h1:n < 16
    · rw [hexD_small h1,hexK,Nat.div_eq_of_lt h1,hexK_zero,Nat.mod_eq_of_lt h1]
      rfl
    cases k with
    | zero=>exact absurd (by simpa using h) h1
    | succ k=>
      have ih:=hexK_hexD k (n / 16) (by rw [Nat.pow_succ] at h;omega)
      rw [hexK,ih,hexD_step h1,List.length_append,List.append_assoc,List.length_singleton,Nat.add_sub_add_right]
theorem hex8_hexD {n:Nat} (h:n < 4294967296):hex8 n = List.replicate (8 - (hexD n).length) 48++hexD n:=by
  rw [← hexK8]
  exact hexK_hexD 7 n h
theorem tz_16:tz 16 = 4:=by
  rw [tz,dif_pos (by decide),tz,dif_pos (by decide),tz,dif_pos (by decide),tz,dif_pos (by decide),tz,dif_neg (by decide)]
def dig36:List UInt8:=[48,49,50,51,52,53,54,55,56,57,97,98,99,100,101,102,103,104,105,106,107,108,109,110,111,112,113,114,115,116,117,118,119,120,121,122]
theorem dig36_at:∀ k < 16,dig36[k]? = some (hxd k):=by decide
def zcells (d:List UInt8):List Value:=List.replicate (65 - d.length) (.int .u8 0)++bcells d
theorem zcells_len {d:List UInt8} (h:d.length≤65):(zcells d).length = 65:=by
  unfold zcells bcells
  rw [List.length_append,List.length_replicate,List.length_map]
  omega
theorem zcells_set {d:List UInt8} (c:UInt8) (h:d.length < 65):(zcells d).set (0 + (65 - d.length - 1) * 1) (.int .u8 (c.toNat:Int)) = zcells (c :: d):=by
  unfold zcells
  rw [Nat.zero_add,Nat.mul_one,List.length_cons,show 65 - d.length = (65 - (d.length + 1)) + 1 from by omega,Nat.add_sub_cancel,List.replicate_succ',List.append_assoc,List.set_append_right _ _ (by rw [List.length_replicate];exact Nat.le_refl _),List.length_replicate,Nat.sub_self]
  rfl
theorem hexD_bound {u v:Nat} {d:List UInt8} (hu:u < 4294967296) (h:hexD u = hexD v++d):d.length≤7:=by
  have h1:=hexD_len 7 u hu
  have h2:=hexD_pos v
  rw [h,List.length_append] at h1
  omega
theorem pow2_calls (w:World):Calls Tryz.prog 153 #[.int .i64 16] w fun e w'=>e = .returned (.bool true)∧Ext No w w':=by
  refine calls_into func153 rfl ntmps153 rfl fun _ T=> ?_;replace T:=T.keep [0] rfl;have H:Sx.Hp w (Sx.No) w []:=Sx.Hp.start _ _;refine sj (zz 0 [tt]) rfl fun _ Q1=>?_;refine asn T rfl fun _ T=> ?_;revert Q1 T;refine rg [2,0] (zz 0 [tt,tt,tt,tt,tt,tt]) rfl fun _ Q2 T=>?_;refine mv T rfl fun _ T=> mv T rfl fun _ T=> tsb T rfl (by omega) fun _ T=> ?_;refine tk T rfl (x_iand (p:=16) (q:=15) T rfl rfl rfl (by decide) (by decide)) fun _ T=> teq T rfl fun _ T=> asn T rfl fun _ T=> ?_;revert Q2 T;refine rp [2,0] rfl fun T=>?_;refine wp_ret ?_;refine dn Tryz.f153 T rfl ?_;exact ⟨rfl,H.ext⟩
theorem TZ16_calls (w:World) (ht:Env w):Calls Tryz.prog 154 #[.int .u64 16] w fun e w'=>e = .returned (.int .i64 4)∧Ext No w w':=by
  have R:Ro w No _:=Ro.of fun w' x=>Env.ext ht x;refine calls_into func154 rfl ntmps154 rfl fun _ T=> ?_;replace T:=T.keep [0] rfl;have H:Sx.Hp w (Sx.No) w []:=Sx.Hp.start _ _;refine sj (zz 0 [tt]) rfl fun _ Q1=>?_;refine asn T rfl fun _ T=> ?_;revert Q1 T;refine rq [2,0] rfl fun _ Q2 T=>?_;refine wp_if T rfl (fun h=>by cases h) (fun _=>?_);refine wp_skip ?_;revert Q2;refine nx fun _ Q3=>?_;refine wp_text (zz 0 [tt,uu,tt]) rfl ?_;refine mv T rfl fun _ T=> ?_;refine cal T H can150 rfl (TZ_calls 16 (by decide) (by decide) _ (R.at H.ext).tr) fun w1 H _ T=> asn T rfl fun _ T=> ?_;revert Q3 T;refine rp [2,0] rfl fun T=>?_;refine wp_ret ?_;refine dn Tryz.f154 T rfl ?_;exact ⟨by rw [tz_16];rfl,H.ext⟩
theorem fmtBits_calls (u:Nat) (hu:u < 4294967296) (w:World) (ht:Env w):Calls Tryz.prog 121 #[.slice none 0 0,.int .u64 (u:Int),.int .i64 16,.bool false,.bool false] w fun e w'=>e = .returned (.tuple #[.slice none 0 0,.string ⟨(hexD u).toArray⟩])∧Ext No w w':=by
  have R:Ro w No _:=Ro.of fun w' x=>Env.ext ht x;refine calls_into func121 rfl ntmps121 rfl fun _ T=> ?_;replace T:=T.keep [0,1,2,3,4] rfl;have H:Sx.Hp w (Sx.No) w []:=Sx.Hp.start _ _;refine sj (zz 0 [tt,tt]) rfl fun _ Q1=>?_;refine asn T rfl fun _ T=> asn T rfl fun _ T=> ?_;revert Q1 T;refine rq [11,10,0,1,2,3,4] rfl fun _ Q2 T=>?_;refine sj (zz 0 [tt,tt,tt,tt,tt,tt,tt,tt,tt,tt]) rfl fun _ Q3=>?_;refine mv T rfl fun _ T=> tlt T rfl fun _ T=> mv T rfl fun _ T=> ?_;refine Sl.two T 21 rfl (fun hc4 T=>?_) (fun hc4 T=>?_)
  · exfalso
    try simp only [bq] at hc4
    first | (simp at hc4;done) | omega | (cases hc4;done)
  try simp only [bq] at hc4
  refine mv T rfl fun _ T=> teq T rfl fun _ T=> pf T rfl fun _ T=> mv T rfl fun _ T=> ?_;refine Sl.two T 25 rfl (fun hc5 T=>?_) (fun hc5 T=>?_)
  · exfalso
    try simp only [bq] at hc5
    first | (simp at hc5;done) | omega | (cases hc5;done)
  try simp only [bq] at hc5
  refine mv T rfl fun _ T=> tgt T rfl fun _ T=> pf T rfl fun _ T=> ?_;revert Q3 T;refine rif [28,11,10,0,1,2,3,4] rfl (fun T hc6=>?_) (fun T hc6=>?_)
  · exfalso
    try simp only [bq] at hc6
    first | (simp at hc6;done) | omega | (cases hc6;done)
  try simp only [bq] at hc6
  refine wp_skip ?_;revert Q2;refine nx fun _ Q7=>?_;refine wp_text (zz 0 [uu]) rfl ?_;refine st_eff T rfl rfl rfl rfl (y_alloc T rfl ti161 rfl _) ?_;clear T;rintro _ w1 ⟨b1,rfl,N⟩ a T;replace H:=H.new N;clear N;revert Q7 T;refine rg [12,28,11,10,0,1,2,3,4] (zz 0 [tt]) rfl fun _ Q8 T=>?_;refine asn T rfl fun _ T=> ?_;revert Q8 T;refine rq [13,12,28,11,10,0,1,2,3,4] rfl fun _ Q9 T=>?_;refine sj (zz 0 [tt]) rfl fun _ Q10=>?_;refine mv T rfl fun _ T=> ?_;revert Q10 T;refine rif [30,13,12,28,11,10,0,1,2,3,4] rfl (fun T hc11=>?_) (fun T hc11=>?_)
  · exfalso
    try simp only [bq] at hc11
    first | (simp at hc11;done) | omega | (cases hc11;done)
  try simp only [bq] at hc11
  refine wp_skip ?_;revert Q9;refine nx fun _ Q12=>?_;refine sj (zz 0 [tt,uu]) rfl fun _ Q13=>?_;refine mv T rfl fun _ T=> ?_;refine cal T H can153 rfl (pow2_calls _) fun w2 H _ T=> ?_;replace T:=T.keep [34,30,13,12,28,11,10,0,1,2,3,4] rfl;refine ser_nil ?_;refine then_normal (Q13 _ _ ?_);clear Q13;refine wp_if T rfl (fun _=>?_) (fun h=>by cases h);refine sj (zz 0 [tt,tt,uu,tt,tt]) rfl fun _ Q14=>?_;refine mv T rfl fun _ T=> ?_;refine tk T rfl ((fun w=>x_toint w T rfl underlying3 underlying101 rfl (wrap_u64 (by decide) (by decide)))) fun _ T=> ?_;refine cal T H can154 rfl (TZ16_calls _ (R.at H.ext)) fun w3 H _ T=> ?_;refine tk T rfl ((fun w=>x_toint w T rfl underlying3 underlying101 rfl (wrap_u64 (by decide) (by decide)))) fun _ T=> asn T rfl fun _ T=> ?_;revert Q14 T
  refine rg [14,34,30,13,12,28,11,10,0,1,2,3,4] (zz 0 [tt,tt,tt]) rfl fun _ Q15 T=>?_;refine mv T rfl fun _ T=> ?_;refine tk T rfl ((fun w=>x_toint w T rfl underlying3 underlying96 rfl (wrap_u64 (by decide) (by decide)))) fun _ T=> asn T rfl fun _ T=> ?_;revert Q15 T;refine rg [15,14,34,30,13,12,28,11,10,0,1,2,3,4] (zz 0 [tt,tt,tt,tt]) rfl fun _ Q16 T=>?_;refine mv T rfl fun _ T=> ?_;refine tk T rfl ((fun w=>x_toint w T rfl underlying3 underlying101 rfl (wrap_u64 (by decide) (by decide)))) fun _ T=> ?_;refine tk T rfl ((fun w=>x_sub w T rfl rfl rfl (wrap_u64 (by decide) (by decide)))) fun _ T=> asn T rfl fun _ T=> ?_;revert Q16 T;refine rq [16,15,14,34,30,13,12,28,11,10,0,1,2,3,4] rfl fun _ Q17 T=>?_;refine wp_block ?_;refine wp_loopH (G:=Nat × List UInt8) (fun ⟨v,d⟩=>[(13,.int .i64 ((65 - d.length:Nat):Int)),(1,.int .u64 (v:Int))]) (fun ⟨v,d⟩=>[cB b1 (zcells d) 161]) (fun ⟨v,d⟩=>v < 4294967296∧hexD u = hexD v++d) (fun ⟨v,d⟩=>v) (u,[]) (T.keep [13,1,16,15,14,34,30,12,28,11,10,0,2,3,4] rfl) (H.keep [0] rfl rfl) (⟨hu,(List.append_nil _).symm⟩) ?_
  clear T H;rintro ⟨v,d⟩ a w4 hJ T H;replace T:=T.keep [13,1,16,15,14,34,30,12,28,11,10,0,2,3,4] rfl;replace H:=H.keep [0] rfl rfl;obtain ⟨hv,hd⟩:=hJ;have hdl:=hexD_bound hu hd;refine wp_seq_k fun _ Q18=>?_;refine sj (zz 0 [tt,tt,tt]) rfl fun _ Q19=>?_;refine mv T rfl fun _ T=> mv T rfl fun _ T=> tge T rfl fun _ T=> ?_;revert Q19 T;refine rif [46,13,1,16,15,14,34,30,12,28,11,10,0,2,3,4] rfl (fun T hc20=>?_) (fun T hc20=>?_)
  · try simp only [bq] at hc20
    refine wp_skip ?_;refine then_normal (Q18 _ _ ?_);clear Q18;refine wp_block ?_;refine sj (zz 0 [tt,tt,tt]) rfl fun _ Q21=>?_;refine mv T rfl fun _ T=> tsb T rfl (by omega) fun _ T=> asn T rfl fun _ T=> ?_;revert Q21 T;refine rg [13,46,1,16,15,14,34,30,12,28,11,10,0,2,3,4] (zz 0 [tt,tt,tt,tt,tt,tt,uu]) rfl fun _ Q22 T=>?_;refine mv T rfl fun _ T=> mv T rfl fun _ T=> mv T rfl fun _ T=> ?_;refine tk T rfl (x_kand (p:=v) (q:=15) T rfl rfl rfl rfl (show v < 18446744073709551616 by omega) (by decide)) fun _ T=> ?_;rw [show v &&& 15 = v % 16 from Nat.and_two_pow_sub_one_eq_mod v 4] at T;refine tk T rfl (x_indexStr T rfl underlying9 rfl rfl rfl (dig36_at (v % 16) (by omega))) fun _ T=> ?_;refine tk T rfl (x_indexAddr_array (k:=65 - d.length - 1) T rfl underlying161 ti5 rfl rfl (by omega) (by omega)) ?_
    clear T;intro a T;refine st_act T rfl rfl rfl (x_store1 T rfl ti5 rfl rfl rfl (H.blk 0 rfl) (by rw [zcells_len (by omega)];omega)) ?_;rintro w5 ⟨hb,E,_⟩;replace H:=H.setB 0 rfl hb E rfl;clear hb E;rw [zcells_set _ (by omega)] at H;revert Q22 T;refine rp [13,46,1,16,15,14,34,30,12,28,11,10,0,2,3,4] rfl fun T=>?_;refine wp_text (zz 0 [tt,tt,tt,tt]) rfl ?_;refine mv T rfl fun _ T=> mv T rfl fun _ T=> ?_;refine tk T rfl (x_kshr (p:=v) (s:=4) T rfl rfl rfl (by decide)) fun _ T=> asn T rfl fun _ T=> ?_;replace T:=T.keep [1,13,46,16,15,14,34,30,12,28,11,10,0,2,3,4] rfl;refine ser_nil ?_;refine block_normal ?_;refine then_normal ?_;exact ⟨(v / 16,hxd (v % 16) :: d),⟨by show v / 16 < _;omega,by show _ = hexD (v / 16)++_ :: d;rw [hd,hexD_step (by omega),List.append_assoc];rfl⟩,((T.keep [13,1,16,15,14,34,30,12,28,11,10,0,2,3,4] rfl).conv (by rw [show ((65 - d.length:Nat):Int) - 1 = ((65 - (hxd (v % 16) :: d).length:Nat):Int) from by rw [List.length_cons];omega];rfl)),(H.keep [0] rfl rfl),by show v / 16 < v;omega⟩
  try simp only [bq] at hc20
  refine wp_exit <| then_exit ?_;refine then_exit <| block_exit ?_;revert Q17;refine nx fun _ Q23=>?_;refine wp_text (zz 0 [tt,tt,tt]) rfl ?_;refine mv T rfl fun _ T=> tsb T rfl (by omega) fun _ T=> asn T rfl fun _ T=> ?_;revert Q23 T;refine rp [13,46,1,16,15,14,34,30,12,28,11,10,0,2,3,4] rfl fun T=>?_;refine wp_text (zz 0 [tt,tt,tt,tt,uu]) rfl ?_;refine mv T rfl fun _ T=> mv T rfl fun _ T=> ?_;refine tk T rfl (x_indexStr T rfl underlying9 rfl rfl rfl (dig36_at v (by omega))) fun _ T=> ?_;refine tk T rfl (x_indexAddr_array (k:=65 - d.length - 1) T rfl underlying161 ti5 rfl rfl (by omega) (by omega)) fun _ T=> ?_;refine st_act T rfl rfl rfl (x_store1 T rfl ti5 rfl rfl rfl (H.blk 0 rfl) (by rw [zcells_len (by omega)];omega)) ?_;rintro w6 ⟨hb,E,_⟩;replace H:=H.setB 0 rfl hb E rfl;clear hb E;rw [zcells_set _ (by omega)] at H;revert Q12 T
  refine rq [13,46,1,16,15,14,34,30,12,28,11,10,0,2,3,4] rfl fun _ Q24 T=>?_;refine sj (zz 0 [tt]) rfl fun _ Q25=>?_;refine mv T rfl fun _ T=> ?_;revert Q25 T;refine rif [89,13,46,1,16,15,14,34,30,12,28,11,10,0,2,3,4] rfl (fun T hc26=>?_) (fun T hc26=>?_)
  · exfalso
    try simp only [bq] at hc26
    first | (simp at hc26;done) | omega | (cases hc26;done)
  try simp only [bq] at hc26
  refine wp_skip ?_;revert Q24;refine nx fun _ Q27=>?_;refine sj (zz 0 [tt]) rfl fun _ Q28=>?_;refine mv T rfl fun _ T=> ?_;revert Q28 T;refine rif [94,89,13,46,1,16,15,14,34,30,12,28,11,10,0,2,3,4] rfl (fun T hc29=>?_) (fun T hc29=>?_)
  · exfalso
    try simp only [bq] at hc29
    first | (simp at hc29;done) | omega | (cases hc29;done)
  try simp only [bq] at hc29
  refine wp_skip ?_;revert Q27;refine nx fun _ Q30=>?_;refine wp_text (zz 0 [tt,tt,uu,tt]) rfl ?_;refine mv T rfl fun _ T=> ?_;refine tk T rfl (x_sliceArr_l (p:=65 - (hxd v :: d).length) T rfl underlying161 ti5 rfl rfl (by rw [List.length_cons];omega) (by rw [List.length_cons];omega)) fun _ T=> ?_;refine rn T rfl (x_bytes_string T rfl (Sx.Blk.bsAt (H.blk 0 rfl) (List.length_replicate ..)) underlying39 underlying5 underlying9 rfl (by rw [List.length_cons];omega)) fun _ T=> asn T rfl fun _ T=> ?_;revert Q30 T;refine rp [11,94,89,13,46,1,16,15,14,34,30,12,28,10,0,2,3,4] rfl fun T=>?_;refine wp_ret ?_;refine dn2 Tryz.f121 T rfl ?_;rw [hd,hexD_small (by omega)];exact ⟨rfl,H.ext⟩
theorem FmtI16_calls (u:Nat) (hu:u < 4294967296) (w:World) (ht:Env w):Calls Tryz.prog 91 #[.int .u64 (u:Int),.int .i64 16] w fun e w'=>e = .returned (.string ⟨(hexD u).toArray⟩)∧Ext No w w':=by
  have R:Ro w No _:=Ro.of fun w' x=>Env.ext ht x;refine calls_into func91 rfl ntmps91 rfl fun _ T=> ?_;replace T:=T.keep [0,1] rfl;have H:Sx.Hp w (Sx.No) w []:=Sx.Hp.start _ _;refine sj (zz 0 [tt]) rfl fun _ Q1=>?_;refine asn T rfl fun _ T=> ?_;revert Q1 T;refine rq [4,0,1] rfl fun _ Q2 T=>?_;refine sj (zz 0 [tt,tt]) rfl fun _ Q3=>?_;refine mv T rfl fun _ T=> teq T rfl fun _ T=> ?_;revert Q3 T;refine rif [10,4,0,1] rfl (fun T hc4=>?_) (fun T hc4=>?_)
  · exfalso
    try simp only [bq] at hc4
    first | (simp at hc4;done) | omega | (cases hc4;done)
  try simp only [bq] at hc4
  refine wp_skip ?_;revert Q2;refine nx fun _ Q5=>?_;refine wp_text (zz 0 [tt,tt,uu,tt,tt,tt,tt,tt]) rfl ?_;refine mv T rfl fun _ T=> mv T rfl fun _ T=> ?_;refine cal T H can121 rfl (fmtBits_calls u hu _ (R.at H.ext)) fun w1 H _ T=> mv T rfl fun _ T=> xt T rfl fun _ T=> xt T rfl fun _ T=> asn T rfl fun _ T=> asn T rfl fun _ T=> ?_;revert Q5 T;refine rg [8,10,4,0,1] (zz 0 [tt,tt]) rfl fun _ Q6 T=>?_;refine mv T rfl fun _ T=> asn T rfl fun _ T=> ?_;revert Q6 T;refine rp [4,8,10,0,1] rfl fun T=>?_;refine wp_ret ?_;refine dn Tryz.f91 T rfl ?_
  exact ⟨rfl,H.ext⟩
theorem FmtU16_calls (u:Nat) (hu:u < 4294967296) (w:World) (ht:Env w):Calls Tryz.prog 58 #[.int .u64 (u:Int),.int .i64 16] w fun e w'=>e = .returned (.string ⟨(hexD u).toArray⟩)∧Ext No w w':=by
  have R:Ro w No _:=Ro.of fun w' x=>Env.ext ht x;refine calls_into func58 rfl ntmps58 rfl fun _ T=> ?_;replace T:=T.keep [0,1] rfl;have H:Sx.Hp w (Sx.No) w []:=Sx.Hp.start _ _;refine sj (zz 0 [tt]) rfl fun _ Q1=>?_;refine asn T rfl fun _ T=> ?_;revert Q1 T;refine rg [4,0,1] (zz 0 [tt,tt,uu,tt]) rfl fun _ Q2 T=>?_;refine mv T rfl fun _ T=> mv T rfl fun _ T=> ?_;refine cal T H can91 rfl (FmtI16_calls u hu _ (R.at H.ext)) fun w1 H _ T=> asn T rfl fun _ T=> ?_;revert Q2 T;refine rp [4,0,1] rfl fun T=>?_;refine wp_ret ?_;refine dn Tryz.f58 T rfl ?_;exact ⟨rfl,H.ext⟩
theorem x_string_bytes {nz:Sz} {l:List (Nat × Value)} {a:Act} {o:Oper} {t t' e:TypeId} {x:Operand} {s:List UInt8} (T:Sl nz l a) (hop:o.op = .convert t t' x) (hs:Tryz.prog.underlying t = some .string) (hd:Tryz.prog.underlying t' = some (.slice e)) (he:Tryz.prog.underlying e = some (.int .u8)) (hx:opnd l x = some (.string ⟨s.toArray⟩)) (w:World) :
    ∃ r w',(execOp a.eval o).run Tryz.prog w = .ok (.value r) w'∧∃ b c,r = .slice (some ⟨b,0,none⟩) s.length c∧Bs w' (some ⟨b,0,none⟩) s∧Ext No w w'∧w.heap.size≤b∧b < w'.heap.size:=by
  have h:=Lib.run_convert_string_bytes w t t' e ⟨s.toArray⟩ hs hd he
  have hz:(⟨s.toArray⟩:ByteArray).size = s.length:=by simp [ByteArray.size]
  rw [hz] at h
  obtain ⟨c9,h9⟩:∃ c9,(convert t t' (.string ⟨s.toArray⟩)).run Tryz.prog w = .ok (.slice (some ⟨w.heap.size,0,none⟩) s.length c9) (Lib.bytesWorld w e ⟨s.toArray⟩):=⟨_,h⟩
  clear h
  refine ⟨.slice (some ⟨w.heap.size,0,none⟩) s.length c9,Lib.bytesWorld w e ⟨s.toArray⟩,?_,w.heap.size,c9,rfl,⟨by unfold bcells;simp,fun _=>rfl,fun j v hj=>?_⟩,bytes_ext _ _ _,Nat.le_refl _,by rw [Lib.bytesWorld_size];omega⟩
  · simp [execOp,hop,T.eval hx,h9]
  unfold bcells at hj
  rw [List.getElem?_map,Option.map_eq_some_iff] at hj
  obtain ⟨c,hc,rfl⟩:=hj
  have h1:=Lib.bytesWorld_cell w e ⟨s.toArray⟩ j (by rw [hz];exact (List.getElem?_eq_some_iff.1 hc).1)
  show (Lib.bytesWorld w e ⟨s.toArray⟩).cell? ⟨w.heap.size,0 + j,none⟩ = _
  rw [Nat.zero_add,h1]
  simp [List.getD,hc]
theorem rep48:∀ c,Lib.repeatL [48] c = List.replicate c 48
  | 0=>rfl
  | c + 1=>by
    rw [Lib.repeatL,rep48 c]
    rfl
theorem Rep_calls (c:Nat) (hc:c≤8) (w:World):Calls Tryz.prog 59 #[.string ⟨#[48]⟩,.int .i64 (c:Int)] w fun e w'=>e = .returned (.string ⟨(List.replicate c (48:UInt8)).toArray⟩)∧Ext No w w':=by
  refine (calls_drawn (Tryz.strings_Repeat ⟨#[48]⟩ c w (by omega) (by show 1 * c≤_;omega))).mono fun e w' h=>?_
  obtain ⟨⟨rfl,hb⟩,hd⟩:=h
  refine ⟨?_,ext_below hb (hd ⟨_,rfl⟩)⟩
  rw [← rep48]
theorem sum_calls (s:List UInt8) (hs:s.length≤100000000) (w:World) (ht:Env w):Calls Tryz.prog 30 #[.string ⟨s.toArray⟩] w fun e w'=>e = .returned (.string ⟨(sumT s).toArray⟩)∧Ext No w w':=by
  have R:Ro w No _:=Ro.of fun w' x=>Env.ext ht x;have hcl:=crc_lt s;have hx1:=hexD_len 7 (crc s) hcl;have hx2:=hexD_pos (crc s);have hx3:=hex8_hexD hcl;have hx4:(List.replicate (8 - (hexD (crc s)).length) (48:UInt8)).length = 8 - (hexD (crc s)).length:=List.length_replicate;refine calls_into func30 rfl ntmps30 rfl fun _ T=> ?_;replace T:=T.keep [0] rfl;have H:Sx.Hp w (Sx.No) w []:=Sx.Hp.start _ _;refine sj (zz 0 [tt]) rfl fun _ Q1=>?_;refine asn T rfl fun _ T=> ?_;revert Q1 T;refine rg [2,0] (zz 0 [tt,uu,uu,tt]) rfl fun _ Q2 T=>?_;refine mv T rfl fun _ T=> ?_;refine st_eff T rfl rfl rfl rfl (x_string_bytes T rfl underlying9 underlying39 underlying5 rfl _) ?_;rintro _ w1 ⟨bb,cb,rfl,hbs,E,hb1,hb2⟩;clear T;intro a T;replace H:=H.pure E;clear E;refine cal T H can57 rfl (Sum_calls s hbs hs) fun w2 H _ T=> asn T rfl fun _ T=> ?_;revert Q2 T;refine rg [3,2,0] (zz 0 [tt,tt,uu,tt]) rfl fun _ Q3 T=>?_;refine mv T rfl fun _ T=> ?_;refine tk T rfl ((fun w=>x_toint w T rfl underlying69 underlying96 rfl (wrap_u64 (by omega) (by omega)))) fun _ T=> ?_;refine cal T H can58 rfl (FmtU16_calls (crc s) hcl _ (R.at H.ext)) fun w3 H _ T=> asn T rfl fun _ T=> ?_;revert Q3 T;refine rg [4,3,2,0] (zz 0 [tt,tt,tt,uu,tt,tt,tt,tt]) rfl fun _ Q4 T=>?_;refine mv T rfl fun _ T=> tls T underlying9 rfl fun _ T=> tsb T rfl (by omega) fun _ T=> ?_;rw [show (8:Int) - ((hexD (crc s)).length:Int) = ((8 - (hexD (crc s)).length:Nat):Int) from by omega] at T;refine cal T H can59 rfl (Rep_calls (8 - (hexD (crc s)).length) (by omega) _) fun w4 H _ T=> ?_;refine tct T rfl (by simp only [ll];omega) ?_
  clear T;intro a T;refine mv T rfl fun _ T=> ?_;refine tct T rfl (by simp only [ll];omega) fun _ T=> asn T rfl fun _ T=> ?_;revert Q4 T;refine rp [2,4,3,0] rfl fun T=>?_;refine wp_ret ?_;refine dn Tryz.f30 T rfl ?_;refine ⟨congrArg (fun l:List UInt8=>Ending.returned (Value.string ⟨l.toArray⟩)) ?_,H.ext⟩;unfold sumT;rw [hx3];simp
def dv16:Nat→Nat→Nat
  | 0,n=>n
  | k + 1,n=>dv16 k n / 16
theorem dv16_eq:∀ k n,dv16 k n = n / 16 ^ k
  | 0,n=>by simp [dv16]
  | k + 1,n=>by rw [dv16,dv16_eq k n,Nat.pow_succ,Nat.div_div_eq_div_mul]
def hexL:Nat→Nat→List UInt8
  | 0,_=>[]
  | k + 1,n=>hxd (n / 16 ^ k % 16) :: hexL k n
theorem hexL_len:∀ k n,(hexL k n).length = k
  | 0,_=>rfl
  | k + 1,n=>by rw [hexL,List.length_cons,hexL_len k n]
theorem hexL8 (n:Nat):hexL 8 n = hex8 n:=by
  simp only [hexL,hex8,hxd]
  simp
theorem hxd_hi:∀ k < 16,9 < k→((hxd k).toNat:Int) = 97 + (k:Int) - 10:=by decide
theorem hxd_lo:∀ k < 16,¬ 9 < k→((hxd k).toNat:Int) = 48 + (k:Int):=by decide
theorem quo16 {m:Nat} (h:m < 4294967296):IntKind.u32.wrap ((m:Int).tdiv 16) = ((m / 16:Nat):Int):=by
  have e:(m:Int).tdiv 16 = ((m / 16:Nat):Int):=by rw [Int.tdiv_eq_ediv_of_nonneg (by omega)];omega
  rw [e]
  exact wrap_u32 (by omega)
theorem xhex_calls (n:Nat) (hn:n < 4294967296) (w:World):Calls Tryz.prog 34 #[.int .u32 (n:Int)] w fun e w'=>e = .returned (.string ⟨(hex8 n).toArray⟩)∧Ext No w w':=by
  refine calls_into func34 rfl ntmps34 rfl fun _ T=> ?_;replace T:=T.keep [0] rfl;have H:Sx.Hp w (Sx.No) w []:=Sx.Hp.start _ _;refine sj (zz 0 [tt]) rfl fun _ Q1=>?_;refine asn T rfl fun _ T=> ?_;revert Q1 T;refine rg [2,0] (zz 0 [tt]) rfl fun _ Q2 T=>?_;refine asn T rfl fun _ T=> ?_;revert Q2 T;refine rq [3,2,0] rfl fun _ Q3 T=>?_;refine sj (zz 0 [tt]) rfl fun _ Q4=>?_;refine asn T rfl fun _ T=> ?_;revert Q4 T;refine rp [4,3,2,0] rfl fun T=>?_;refine wp_block ?_;refine wp_loopH (G:=Nat) (fun k=>[(4,.int .i64 (k:Int)),(0,.int .u32 ((dv16 k n:Nat):Int)),(3,.string ⟨(hexL k n).toArray⟩)]) (fun k=>[]) (fun k=>k≤8) (fun k=>8 - k) 0 (T.keep [4,0,3,2] rfl) (H.keep [] rfl rfl) (Nat.zero_le _) ?_;clear T H;rintro k a w1 hJ T H;replace T:=T.keep [4,0,3,2] rfl;replace H:=H.keep [] rfl rfl;have hk:k≤8:=hJ;have hll:=hexL_len k n;obtain ⟨m,hm9⟩:∃ m,n / 16 ^ k = m:=⟨_,rfl⟩;have hml:m < 4294967296:=by rw [← hm9];exact Nat.lt_of_le_of_lt (Nat.div_le_self _ _) hn
  rw [dv16_eq,hm9] at T;refine wp_seq_k fun _ Q5=>?_;refine sj (zz 0 [tt,tt]) rfl fun _ Q6=>?_;refine mv T rfl fun _ T=> tlt T rfl fun _ T=> ?_;revert Q6 T;refine rif [8,4,0,3,2] rfl (fun T hc7=>?_) (fun T hc7=>?_)
  · try simp only [bq] at hc7
    refine wp_skip ?_;revert Q5;refine nx fun _ Q8=>?_;refine wp_block ?_;refine sj (zz 0 [tt,tt,tt,tt]) rfl fun _ Q9=>?_;refine mv T rfl fun _ T=> ?_;refine tk T rfl ((fun w=>x_rem w T rfl rfl rfl (by omega))) fun _ T=> ?_;rw [show (m:Int).tmod 16 = ((m % 16:Nat):Int) from by rw [Int.tmod_eq_emod_of_nonneg (by omega)];omega] at T;refine tk T rfl ((fun w=>x_toint w T rfl underlying69 underlying5 rfl (wrap8 (by omega)))) fun _ T=> asn T rfl fun _ T=> ?_;revert Q9 T;refine rg [5,8,4,0,3,2] (zz 0 [tt,tt,tt]) rfl fun _ Q10 T=>?_;refine mv T rfl fun _ T=> ?_;refine tk T rfl ((fun w=>x_add w T rfl rfl rfl (wrap8 (by omega)))) fun _ T=> asn T rfl fun _ T=> ?_;revert Q10 T;refine rq [6,5,8,4,0,3,2] rfl fun _ Q11 T=>?_;refine wp_join (G:=Unit) (fun _=>[(6,.int .u8 ((hxd (m % 16)).toNat:Int))]) (fun _=>[]) (fun _=>True) (T.keep [5,8,4,0,3,2] rfl) (H.keep [] rfl rfl) Q11 ?_ ?_
    · clear T H Q11
      rintro _ a w2 hJ T H;replace T:=T.keep [6,5,8,4,0,3,2] rfl;replace H:=H.keep [] rfl rfl;clear hJ;refine sj (zz 0 [tt,uu,uu,tt,tt,tt]) rfl fun _ Q12=>?_;refine mv T rfl fun _ T=> ?_;refine st_eff T rfl rfl rfl rfl (y_slice1 T rfl underlying39 ti5 rfl rfl rfl rfl rfl rfl _) ?_;clear T;rintro _ w3 ⟨b1,rfl,N⟩ a T;replace H:=H.new N;clear N;refine rn T rfl (x_bytes_string T rfl ((H.blk 0 rfl).bs1n (hxd (m % 16)).toNat rfl (by have:=(hxd (m % 16)).toNat_lt;omega)) underlying39 underlying5 underlying9 rfl rfl) fun _ T=> ?_;rw [show UInt8.ofNat (hxd (m % 16)).toNat = hxd (m % 16) from by simp] at T;refine mv T rfl fun _ T=> ?_;refine tct T rfl (by simp only [ll];omega) fun _ T=> asn T rfl fun _ T=> ?_;revert Q12 T;refine rp [3,6,5,8,4,0,2] rfl fun T=>?_;refine wp_text (zz 0 [tt,tt,tt]) rfl ?_;refine mv T rfl fun _ T=> ?_;refine tk T rfl ((fun w=>x_quo w T rfl rfl rfl (by decide) (quo16 hml))) ?_
      clear T;intro a T;refine asn T rfl fun _ T=> ?_;replace T:=T.keep [0,3,6,5,8,4,2] rfl;refine ser_nil ?_;refine block_normal ?_;refine then_normal (Q8 _ _ ?_);clear Q8;refine wp_text (zz 0 [tt,tt,tt]) rfl ?_;refine mv T rfl fun _ T=> tad T rfl (by omega) fun _ T=> asn T rfl fun _ T=> ?_;replace T:=T.keep [4,0,3,6,5,8,2] rfl;refine ser_nil ?_;refine then_normal ?_;exact ⟨k + 1,(by omega),((T.keep [4,0,3,2] rfl).conv (by rw [dv16,dv16_eq,hexL,hm9];rfl)),(H.keep [] rfl rfl),by omega⟩
    clear Q11;intro hJK11
    refine sj (zz 0 [tt,tt]) rfl fun _ Q13=>?_;refine mv T rfl fun _ T=> tgt T rfl fun _ T=> ?_;revert Q13 T;refine rif [17,6,5,8,4,0,3,2] rfl (fun T hc14=>?_) (fun T hc14=>?_)
    · try simp only [bq] at hc14
      refine wp_text (zz 0 [tt,tt,tt,tt]) rfl ?_;refine mv T rfl fun _ T=> ?_;refine tk T rfl ((fun w=>x_add w T rfl rfl rfl (wrap8 (by omega)))) fun _ T=> ?_;refine tk T rfl ((fun w=>x_sub w T rfl rfl rfl (wrap8 (by omega)))) fun _ T=> asn T rfl fun _ T=> ?_;replace T:=T.keep [6,17,5,8,4,0,3,2] rfl;refine ser_nil ?_;exact then_normal (hJK11 () _ _ trivial ((T.keep [6,5,8,4,0,3,2] rfl).conv (by rw [hxd_hi (m % 16) (by omega) (by omega)];rfl)) (H.keep [] rfl rfl))
    try simp only [bq] at hc14
    refine wp_skip ?_;exact then_normal (hJK11 () _ _ trivial ((T.keep [6,5,8,4,0,3,2] rfl).conv (by rw [hxd_lo (m % 16) (by omega) (by omega)];rfl)) (H.keep [] rfl rfl))
  try simp only [bq] at hc7
  obtain rfl:k = 8:=by omega
  refine wp_exit <| then_exit ?_;refine then_exit <| block_exit ?_;revert Q3;refine nx fun _ Q15=>?_;refine wp_text (zz 0 [tt,tt]) rfl ?_;refine mv T rfl fun _ T=> asn T rfl fun _ T=> ?_;revert Q15 T;refine rp [2,8,4,0,3] rfl fun T=>?_;refine wp_ret ?_;refine dn Tryz.f34 T rfl ?_;rw [hexL8];exact ⟨rfl,H.ext⟩
def preT (l:List Ep) (k:Nat):List UInt8:=bodyT (l.take k)
def wsT (ws:List Wt) (j:Nat):List UInt8:=((ws.take j).map wrT).flatMap lin
def hdL (x:Ep):List UInt8:=lin (hdT x.t x.s x.ws.length)
theorem bodyT_app (l m:List Ep):bodyT (l++m) = bodyT l++bodyT m:=by unfold bodyT linesL;rw [List.flatMap_append,List.flatMap_append]
theorem bodyT_one (x:Ep):bodyT [x] = hdL x++wsT x.ws x.ws.length:=by simp [bodyT,linesL,linesE,hdL,wsT]
theorem preT_step {l:List Ep} {k:Nat} {x:Ep} (h:l[k]? = some x):preT l (k + 1) = preT l k++(hdL x++wsT x.ws x.ws.length):=by
  unfold preT
  rw [List.take_add_one,h,bodyT_app]
  exact congrArg _ (bodyT_one x)
theorem preT_all {l:List Ep} {k:Nat} (h:l.length≤k):preT l k = bodyT l:=by unfold preT;rw [List.take_of_length_le h]
theorem wsT_step {ws:List Wt} {j:Nat} {y:Wt} (h:ws[j]? = some y):wsT ws (j + 1) = wsT ws j++lin (wrT y):=by
  unfold wsT
  rw [List.take_add_one,h]
  simp
theorem wsT_le (ws:List Wt) (j:Nat):(wsT ws j).length≤(wsT ws ws.length).length:=by
  have e:wsT ws ws.length = wsT ws j++((ws.drop j).map wrT).flatMap lin:=by
    unfold wsT
    rw [List.take_length,← List.flatMap_append,← List.map_append,List.take_append_drop]
  rw [e,List.length_append]
  omega
theorem preT_le (l:List Ep) (k:Nat):(preT l k).length≤(bodyT l).length:=by
  have e:bodyT l = preT l k++bodyT (l.drop k):=by
    unfold preT
    rw [← bodyT_app,List.take_append_drop]
  rw [e,List.length_append]
  omega
theorem part_le {l:List Ep} {k:Nat} {x:Ep} (h:l[k]? = some x) (j:Nat):(preT l k).length + (hdL x).length + (wsT x.ws j).length≤(bodyT l).length:=by
  have h1:=preT_le l (k + 1)
  rw [preT_step h,List.length_append,List.length_append] at h1
  have:=wsT_le x.ws j
  omega
theorem ebad_may {l:List Ep} {k:Nat} {x:Ep} (h:l[k]? = some x) (hm:okE x = false):ebad l k = 4:=by
  unfold ebad
  rw [h]
  dsimp only
  rw [if_pos hm]
theorem ebad_zero {l:List Ep} {x:Ep} (h:l[0]? = some x) (hm:okE x = true):ebad l 0 = 0:=by
  unfold ebad
  rw [h]
  dsimp only
  rw [hm,if_neg (by decide)]
theorem ebad_next {l:List Ep} {k:Nat} {x y:Ep} (h:l[k]? = some x) (h0:0 < k) (hy:l[k - 1]? = some y) (hm:okE x = true):ebad l k = if ltS y.s x.s then 0 else 20:=by
  cases k with
  | zero=>omega
  | succ j=>
    rw [Nat.add_sub_cancel] at hy
    unfold ebad
    rw [h]
    dsimp only
    rw [hm,if_neg (by decide),hy]
theorem printL_no {l:List Ep} {k:Nat} (h:∀ i,i < k→ebad l i = 0) (hk:k < l.length) (e:Int) (he:ebad l k = e) (h0:e ≠ 0):printL l = ([],e):=by
  have hf:fault l = e:=by
    unfold fault
    rw [fstB_at h (by rw [he];exact h0) hk,he]
  unfold printL
  rw [hf,if_neg h0]
theorem printL_yes {l:List Ep} (h:∀ i,i < l.length→ebad l i = 0):printL l = (textT l,0):=by
  have hf:fault l = 0:=fstB_of h
  unfold printL
  rw [hf,if_pos rfl]
theorem map_at {l:List En} {k:Nat} {o:En} (h:l[k]? = some o):(l.map En.p)[k]? = some o.p:=by rw [List.getElem?_map,h];rfl
structure PrE (w:World) (x:En):Prop where
  ss:Ss w x.ad Wt.cells 4 x.ws
  lw:x.ws.length≤1000000
  is:inS x.s
  it:inT x.t
  wf:∀ y ∈ x.ws,y.v.num < 18446744073709551616∧y.key.length≤100000∧y.v.tx.length≤100000
set_option maxHeartbeats 800000 in
theorem xPrintL_calls {ad:Option Addr} {c:Nat} (l:List En) {w:World} (hs:Ss w ad En.cells 7 l) (hw:∀ x ∈ l,PrE w x) (hl:l.length≤1000000) (hb:(bodyT (l.map En.p)).length≤50000000):Calls Tryz.prog 12 #[.slice ad l.length c] w fun e w'=>e = .returned (.tuple #[.string ⟨(printL (l.map En.p)).1.toArray⟩,.int .i64 (printL (l.map En.p)).2])∧Ext No w w':=by
  have R:Ro w No _:=Ro.of fun w' x=>hs.ext_no x;have RM:Ro w No (fun u=>∀ x ∈ l,Ss u x.ad Wt.cells 4 x.ws):=Ro.of fun w' x y hy=>((hw y hy).ss).ext_no x;refine calls_into func12 rfl ntmps12 rfl fun _ T=> ?_;replace T:=T.keep [0] rfl;have H:Sx.Hp w (Sx.No) w []:=Sx.Hp.start _ _;refine sj (zz 0 [tt,tt]) rfl fun _ Q1=>?_;refine asn T rfl fun _ T=> asn T rfl fun _ T=> ?_;revert Q1 T;refine rq [3,2,0] rfl fun _ Q2 T=>?_;refine sj (zz 0 [tt]) rfl fun _ Q3=>?_;refine asn T rfl fun _ T=> ?_;revert Q3 T;refine rp [4,3,2,0] rfl fun T=>?_;refine wp_block ?_;refine wp_loopH (G:=Nat) (fun k=>[(4,.int .i64 (k:Int))]) (fun k=>[]) (fun k=>k≤l.length∧∀ i,i < k→ebad (l.map En.p) i = 0) (fun k=>l.length - k) 0 (T.keep [4,0] rfl) (H.keep [] rfl rfl) (⟨Nat.zero_le _,fun i h=>absurd h (Nat.not_lt_zero _)⟩) ?_;clear T H;rintro k a w1 hJ T H;replace T:=T.keep [4,0] rfl;replace H:=H.keep [] rfl rfl;obtain ⟨hk,hks⟩:=hJ;refine wp_seq_k fun _ Q4=>?_;refine sj (zz 0 [tt,tt,tt,tt]) rfl fun _ Q5=>?_
  refine mv T rfl fun _ T=> mv T rfl fun _ T=> tln T underlying22 rfl fun _ T=> tlt T rfl fun _ T=> ?_;revert Q5 T;refine rif [11,4,0] rfl (fun T hc6=>?_) (fun T hc6=>?_)
  · try simp only [bq] at hc6
    obtain ⟨o,ho⟩:∃ q9,l[k]? = some q9:=⟨_,List.getElem?_eq_getElem (by omega)⟩;have hom:=List.mem_of_getElem? ho;have hpo:=hw o hom;have hmo:=map_at ho;have hlw:=hpo.lw;have hk9:k < (l.map En.p).length:=by rw [List.length_map];omega
    refine wp_skip ?_;revert Q4;refine nx fun _ Q7=>?_;refine wp_block ?_;refine wp_seq_k fun _ Q8=>?_;refine sj (zz 0 [tt,tt,tt,uu,uu,tt]) rfl fun _ Q9=>?_;refine mv T rfl fun _ T=> mv T rfl fun _ T=> ?_;refine tk T rfl (x_index (k:=k) T rfl underlying22 ti31 (by first | exact (R.at H.ext).sv | exact ((RM.at H.ext) o hom).sv) rfl rfl (by first | rfl | omega) (by omega)) fun _ T=> ?_;refine rn T rfl (y_loadS T rfl underlying31 ti31 rfl (by first | exact ((R.at H.ext).cs En.len ho) | exact (((R.at H.ext).cs En.len ho2).seg (i:=3) (k:=3) rfl) | exact (((R.at H.ext).cs En.len ho).seg (i:=3) (k:=3) rfl) | exact (((RM.at H.ext) o hom).cs Wt.len hv)) (by rfl)) fun _ T=> ?_;refine cal T H can31 rfl (EntryMay_calls o.t o.s o.ws ((RM.at H.ext) o hom) hpo.lw) fun w2 H _ T=> nt T rfl fun _ T=> ?_;revert Q9 T;refine rif [19,11,4,0] rfl (fun T hc10=>?_) (fun T hc10=>?_)
    · try simp only [bq] at hc10
      have hmy:okE o.p = false:=by have h9:=hc10;show emay o.t o.s o.ws = false;simpa using h9
      refine sj (zz 0 [tt,tt]) rfl fun _ Q11=>?_;refine asn T rfl fun _ T=> asn T rfl fun _ T=> ?_;revert Q11 T;refine rp [3,2,19,11,4,0] rfl fun T=>?_;refine wp_ret <| then_ret ?_;refine block_ret <| then_ret ?_;refine then_ret <| block_ret <| then_ret ?_;clear Q8 Q7 Q2;refine dn2 Tryz.f12 T rfl ?_;rw [printL_no hks hk9 4 (ebad_may hmo hmy) (by decide)];exact ⟨rfl,H.ext⟩
    try simp only [bq] at hc10
    have hmy:okE o.p = true:=by have h9:=hc10;show emay o.t o.s o.ws = true;simpa using h9
    refine wp_skip ?_;revert Q8;refine nx fun _ Q12=>?_;revert H;refine drw (Sx.No) [(0,.take),(1,.take),(2,.take),(3,.take),(4,.take),(5,.take),(6,.take),(7,.take),(8,.held),(9,.take),(10,.take),(11,.take),(12,.take),(13,.held),(14,.run),(15,.take),(16,.take)] (by kernel_rfl) (by kernel_rfl) fun u H hH=>?_;have Hu:=H;refine mv T rfl fun _ T=> tgt T rfl fun _ T=> mv T rfl fun _ T=> ?_;refine Sl.two T 22 rfl (fun hc13 T=>?_) (fun hc13 T=>?_)
    · try simp only [bq] at hc13
      obtain ⟨o2,ho2⟩:∃ q9,l[k - 1]? = some q9:=⟨_,List.getElem?_eq_getElem (by omega)⟩;refine mv T rfl fun _ T=> mv T rfl fun _ T=> tsb T rfl (by omega) fun _ T=> ?_;refine tk T rfl (x_index (k:=k - 1) T rfl underlying22 ti31 (by first | exact (R.at H.ext).sv | exact ((RM.at H.ext) o hom).sv) rfl rfl (by first | rfl | omega) (by omega)) fun _ T=> fad T fa31_1 rfl fun _ T=> ?_;refine hed T rfl hH (fun w' h'=>y_loadS T rfl underlying28 ti28 rfl (by first | exact ((R.at (Hu.ext.step h')).cs En.len ho) | exact (((R.at (Hu.ext.step h')).cs En.len ho2).seg (i:=3) (k:=3) rfl) | exact (((R.at (Hu.ext.step h')).cs En.len ho).seg (i:=3) (k:=3) rfl) | exact (((RM.at (Hu.ext.step h')) o hom).cs Wt.len hv)) (by rfl)) fun _ T=> mv T rfl fun _ T=> mv T rfl fun _ T=> ?_;refine tk T rfl (x_index (k:=k) T rfl underlying22 ti31 (by first | exact (R.at H.ext).sv | exact ((RM.at H.ext) o hom).sv) rfl rfl (by first | rfl | omega) (by omega)) fun _ T=> fad T fa31_1 rfl ?_
      clear T;intro a T;refine hed T rfl hH (fun w' h'=>y_loadS T rfl underlying28 ti28 rfl (by first | exact ((R.at (Hu.ext.step h')).cs En.len ho) | exact (((R.at (Hu.ext.step h')).cs En.len ho2).seg (i:=3) (k:=3) rfl) | exact (((R.at (Hu.ext.step h')).cs En.len ho).seg (i:=3) (k:=3) rfl) | exact (((RM.at (Hu.ext.step h')) o hom).cs Wt.len hv)) (by rfl)) fun _ T=> ?_;refine cal T H can22 rfl (Less_calls o2.s o.s _) fun w3 H _ T=> nt T rfl fun _ T=> pt T rfl fun _ T=> ?_;replace T:=T.keep [36,19,11,4,0] rfl;clear Hu hH;refine ser_calm ?_;refine then_normal (Q12 _ _ ?_);clear Q12;refine wp_if T rfl (fun hc14=>?_) (fun hc14=>?_)
      · try simp only [bq] at hc14
        have hlt9:¬ ltS o2.s o.s:=by simpa using hc14
        refine sj (zz 0 [tt,tt]) rfl fun _ Q15=>?_;refine asn T rfl fun _ T=> asn T rfl fun _ T=> ?_;revert Q15 T;refine rp [3,2,36,19,11,4,0] rfl fun T=>?_;refine wp_ret <| block_ret ?_;refine then_ret <| then_ret ?_;refine block_ret <| then_ret ?_;clear Q7 Q2;refine dn2 Tryz.f12 T rfl ?_;rw [printL_no hks hk9 20 (by rw [ebad_next hmo (by omega) (map_at ho2) hmy];exact if_neg hlt9) (by decide)];exact ⟨rfl,H.ext⟩
      try simp only [bq] at hc14
      have heb9:ebad (l.map En.p) k = 0:=by rw [ebad_next hmo (by omega) (map_at ho2) hmy];exact if_pos (show ltS o2.s o.s from by have h9:=hc14;simpa using h9)
      refine wp_skip <| block_normal ?_;refine then_normal (Q7 _ _ ?_);clear Q7;refine wp_text (zz 0 [tt,tt,tt]) rfl ?_;refine mv T rfl fun _ T=> tad T rfl (by omega) fun _ T=> asn T rfl fun _ T=> ?_;replace T:=T.keep [4,36,19,11,0] rfl;refine ser_nil ?_;refine then_normal ?_;exact ⟨k + 1,⟨by omega,fun i hi=>by
                    rcases Nat.lt_or_ge i k with h9 | h9
                    · exact hks i h9
                    obtain rfl:i = k:=by omega
                    exact heb9⟩,(T.keep [4,0] rfl),(H.keep [] rfl rfl),by omega⟩
    try simp only [bq] at hc13
    have hk0:k = 0:=by omega
    refine sk T rfl fun _ T=> sk T rfl fun _ T=> sk T rfl fun _ T=> sk T rfl fun _ T=> sk T rfl fun _ T=> ?_;refine st_heldskip T rfl rfl rfl rfl hH fun _ T=> sk T rfl fun _ T=> sk T rfl fun _ T=> sk T rfl fun _ T=> sk T rfl fun _ T=> ?_;refine st_heldskip T rfl rfl rfl rfl hH fun _ T=> ?_;refine st_runskip T rfl rfl rfl rfl fun _ T=> sk T rfl fun _ T=> pf T rfl fun _ T=> ?_;replace T:=T.keep [36,19,11,4,0] rfl;clear Hu hH;refine ser_calm ?_;refine then_normal (Q12 _ _ ?_);clear Q12;refine wp_if T rfl (fun h=>by cases h) (fun _=>?_);have heb9:ebad (l.map En.p) k = 0:=by subst hk0;exact ebad_zero hmo hmy
    refine wp_skip <| block_normal ?_;refine then_normal (Q7 _ _ ?_);clear Q7;refine wp_text (zz 0 [tt,tt,tt]) rfl ?_;refine mv T rfl fun _ T=> tad T rfl (by omega) fun _ T=> asn T rfl fun _ T=> ?_;replace T:=T.keep [4,36,19,11,0] rfl;refine ser_nil ?_;refine then_normal ?_;exact ⟨k + 1,⟨by omega,fun i hi=>by
                  rcases Nat.lt_or_ge i k with h9 | h9
                  · exact hks i h9
                  obtain rfl:i = k:=by omega
                  exact heb9⟩,(T.keep [4,0] rfl),(H.keep [] rfl rfl),by omega⟩
  try simp only [bq] at hc6
  obtain rfl:k = l.length:=by omega
  have hok9:∀ i,i < (l.map En.p).length→ebad (l.map En.p) i = 0:=fun i hi=>hks i (by rw [List.length_map] at hi;exact hi);refine wp_exit <| then_exit ?_;refine then_exit <| block_exit ?_;revert Q2;refine nx fun _ Q16=>?_;refine wp_text (zz 0 [tt]) rfl ?_;refine asn T rfl fun _ T=> ?_;revert Q16 T;refine rq [5,11,4,0] rfl fun _ Q17 T=>?_;refine sj (zz 0 [tt]) rfl fun _ Q18=>?_;refine asn T rfl fun _ T=> ?_;revert Q18 T;refine rp [6,5,11,4,0] rfl fun T=>?_;refine wp_block ?_;replace H:=H.nilR 5 1;refine wp_loopH (G:=Nat × Option Addr × Nat) (fun ⟨k,ad2,c2⟩=>[(6,.int .i64 (k:Int)),(5,.slice ad2 (preT (l.map En.p) k).length c2)]) (fun ⟨k,ad2,c2⟩=>[cR 5 1 ad2 (preT (l.map En.p) k).length c2 (bcells (preT (l.map En.p) k))]) (fun ⟨k,ad2,c2⟩=>k≤l.length) (fun ⟨k,ad2,c2⟩=>l.length - k) (0,none,0) (T.keep [6,5,11,4,0] rfl) (H.keep [0] rfl rfl) (Nat.zero_le _) ?_;clear T H;rintro ⟨k,ad2,c2⟩ a w4 hJ T H;replace T:=T.keep [6,5,11,4,0] rfl;replace H:=H.keep [0] rfl rfl;have hk:k≤l.length:=hJ;have hpl9:=preT_le (l.map En.p) k;refine wp_seq_k fun _ Q19=>?_
  refine sj (zz 0 [tt,tt,tt,tt]) rfl fun _ Q20=>?_;refine mv T rfl fun _ T=> mv T rfl fun _ T=> tln T underlying22 rfl fun _ T=> tlt T rfl fun _ T=> ?_;revert Q20 T;refine rif [40,6,5,11,4,0] rfl (fun T hc21=>?_) (fun T hc21=>?_)
  · try simp only [bq] at hc21
    obtain ⟨o,ho⟩:∃ q9,l[k]? = some q9:=⟨_,List.getElem?_eq_getElem (by omega)⟩;have hom:=List.mem_of_getElem? ho;have hpo:=hw o hom;have hmo:=map_at ho;have hlw:=hpo.lw;have hpj0:(preT (l.map En.p) k).length + (lin (hdT o.t o.s o.ws.length)).length + (wsT o.p.ws 0).length≤(bodyT (l.map En.p)).length:=part_le hmo 0;refine wp_skip ?_;revert Q19;refine nx fun _ Q22=>?_;refine wp_block ?_;refine sj (zz 0 [tt,tt,tt,tt,uu,uu,uu,tt]) rfl fun _ Q23=>?_;refine mv T rfl fun _ T=> mv T rfl fun _ T=> mv T rfl fun _ T=> ?_;refine tk T rfl (x_index (k:=k) T rfl underlying22 ti31 (by first | exact (R.at H.ext).sv | exact ((RM.at H.ext) o hom).sv) rfl rfl (by first | rfl | omega) (by omega)) fun _ T=> ?_;refine rn T rfl (y_loadS T rfl underlying31 ti31 rfl (by first | exact ((R.at H.ext).cs En.len ho) | exact (((R.at H.ext).cs En.len ho2).seg (i:=3) (k:=3) rfl) | exact (((R.at H.ext).cs En.len ho).seg (i:=3) (k:=3) rfl) | exact (((RM.at H.ext) o hom).cs Wt.len hv)) (by rfl)) fun _ T=> ?_;refine cal T H can32 rfl (xhead_calls o.t o.s o.ws hpo.is hpo.it hpo.lw _) fun w5 H _ T=> ?_;refine st_eff T rfl rfl rfl rfl (x_appendS T rfl rfl underlying39 underlying9 ti5 rfl rfl (H.row 0 rfl) (by omega)) ?_;rintro _ w6 ⟨ad6,c6,rfl,hr,E,hown⟩;clear T;intro a T;replace H:=H.setR 0 rfl hr E hown rfl;clear hr E hown;refine asn T rfl fun _ T=> ?_;revert Q23 T;refine rg [5,40,6,11,4,0] (zz 0 [tt]) rfl fun _ Q24 T=>?_;refine asn T rfl fun _ T=> ?_;revert Q24 T;refine rp [7,5,40,6,11,4,0] rfl fun T=>?_;refine wp_block ?_;rw [show (preT (l.map En.p) k).length + (lin (hdT o.t o.s o.ws.length)).length = (preT (l.map En.p) k++(hdL o.p++wsT o.ws 0)).length from by simp [wsT,hdL,En.p]] at T H;rw [show bcells (preT (l.map En.p) k)++bcells (lin (hdT o.t o.s o.ws.length)) = bcells (preT (l.map En.p) k++(hdL o.p++wsT o.ws 0)) from by rw [← bcells_append];simp [wsT,hdL,En.p]] at H;refine wp_loopH (G:=Nat × Option Addr × Nat) (fun ⟨j,ad2,c2⟩=>[(7,.int .i64 (j:Int)),(5,.slice ad2 (preT (l.map En.p) k++(hdL o.p++wsT o.ws j)).length c2)]) (fun ⟨j,ad2,c2⟩=>[cR 5 1 ad2 (preT (l.map En.p) k++(hdL o.p++wsT o.ws j)).length c2 (bcells (preT (l.map En.p) k++(hdL o.p++wsT o.ws j)))]) (fun ⟨j,ad2,c2⟩=>j≤o.ws.length) (fun ⟨j,ad2,c2⟩=>o.ws.length - j) (0,ad6,c6) (T.keep [7,5,40,6,11,4,0] rfl) (H.keep [0] rfl rfl) (Nat.zero_le _) ?_
    clear T H;rintro ⟨j,ad2,c2⟩ a w7 hJ T H;replace T:=T.keep [7,5,40,6,11,4,0] rfl;replace H:=H.keep [0] rfl rfl;have hj:j≤o.ws.length:=hJ;have hpj:(preT (l.map En.p) k).length + (hdL o.p).length + (wsT o.ws j).length≤(bodyT (l.map En.p)).length:=part_le hmo j;have hpj2:(preT (l.map En.p) k).length + (hdL o.p).length + (wsT o.ws (j + 1)).length≤(bodyT (l.map En.p)).length:=part_le hmo (j + 1);have hbt:(preT (l.map En.p) k++(hdL o.p++wsT o.ws j)).length = (preT (l.map En.p) k).length + (hdL o.p).length + (wsT o.ws j).length:=by rw [List.length_append,List.length_append];omega
    refine wp_seq_k fun _ Q25=>?_;refine sj (zz 0 [tt,tt,tt,tt,tt,uu,tt,tt]) rfl fun _ Q26=>?_;refine mv T rfl fun _ T=> mv T rfl fun _ T=> mv T rfl fun _ T=> ?_;refine tk T rfl (x_index (k:=k) T rfl underlying22 ti31 (by first | exact (R.at H.ext).sv | exact ((RM.at H.ext) o hom).sv) rfl rfl (by first | rfl | omega) (by omega)) fun _ T=> fad T fa31_2 rfl fun _ T=> ?_;refine rn T rfl (x_load1 T rfl fl29 rfl ((R.at H.ext).cell (j:=6) En.len ho rfl)) fun _ T=> tln T underlying29 rfl fun _ T=> tlt T rfl fun _ T=> ?_;revert Q26 T;refine rif [57,7,5,40,6,11,4,0] rfl (fun T hc27=>?_) (fun T hc27=>?_)
    · try simp only [bq] at hc27
      obtain ⟨v,hv⟩:∃ q9,o.ws[j]? = some q9:=⟨_,List.getElem?_eq_getElem (by omega)⟩;have hvm:=List.mem_of_getElem? hv;have hpw:(wsT o.ws (j + 1)).length = (wsT o.ws j).length + (lin (wrT v)).length:=by rw [wsT_step hv,List.length_append]
      refine wp_skip ?_;revert Q25;refine nx fun _ Q28=>?_;refine wp_block ?_;refine wp_text (zz 0 [tt,tt,tt,tt,tt,uu,tt,tt,uu,uu,uu,tt]) rfl ?_;refine mv T rfl fun _ T=> mv T rfl fun _ T=> mv T rfl fun _ T=> ?_;refine tk T rfl (x_index (k:=k) T rfl underlying22 ti31 (by first | exact (R.at H.ext).sv | exact ((RM.at H.ext) o hom).sv) rfl rfl (by first | rfl | omega) (by omega)) fun _ T=> fad T fa31_2 rfl fun _ T=> ?_;refine rn T rfl (x_load1 T rfl fl29 rfl ((R.at H.ext).cell (j:=6) En.len ho rfl)) fun _ T=> mv T rfl fun _ T=> ?_;refine tk T rfl (x_index (k:=j) T rfl underlying29 ti53 (by first | exact (R.at H.ext).sv | exact ((RM.at H.ext) o hom).sv) rfl rfl (by first | rfl | omega) (by omega)) fun _ T=> ?_;refine rn T rfl (y_loadS T rfl underlying53 ti53 rfl (by first | exact ((R.at H.ext).cs En.len ho) | exact (((R.at H.ext).cs En.len ho2).seg (i:=3) (k:=3) rfl) | exact (((R.at H.ext).cs En.len ho).seg (i:=3) (k:=3) rfl) | exact (((RM.at H.ext) o hom).cs Wt.len hv)) (by rfl)) ?_
      clear T;intro a T;refine cal T H can33 rfl (xline_calls v (hpo.wf v hvm).1 (hpo.wf v hvm).2.1 (hpo.wf v hvm).2.2 _) fun w8 H _ T=> ?_;refine st_eff T rfl rfl rfl rfl (x_appendS T rfl rfl underlying39 underlying9 ti5 rfl rfl (H.row 0 rfl) (by omega)) ?_;rintro _ w9 ⟨ad9,c9,rfl,hr,E,hown⟩;clear T;intro a T;replace H:=H.setR 0 rfl hr E hown rfl;clear hr E hown;refine asn T rfl fun _ T=> ?_;replace T:=T.keep [5,57,7,40,6,11,4,0] rfl;refine ser_nil ?_;refine block_normal ?_;refine then_normal (Q28 _ _ ?_);clear Q28;refine wp_text (zz 0 [tt,tt,tt]) rfl ?_;refine mv T rfl fun _ T=> tad T rfl (by omega) fun _ T=> asn T rfl fun _ T=> ?_;replace T:=T.keep [7,5,57,40,6,11,4,0] rfl;refine ser_nil ?_;refine then_normal ?_;rw [show (preT (l.map En.p) k++(hdL o.p++wsT o.ws j)).length + (lin (wrT v)).length = (preT (l.map En.p) k++(hdL o.p++wsT o.ws (j + 1))).length from by rw [wsT_step hv];simp;omega] at T H;rw [show bcells (preT (l.map En.p) k++(hdL o.p++wsT o.ws j))++bcells (lin (wrT v)) = bcells (preT (l.map En.p) k++(hdL o.p++wsT o.ws (j + 1))) from by rw [← bcells_append,wsT_step hv];simp] at H
      exact ⟨(j + 1,ad9,c9),(by show j + 1≤_;omega),(T.keep [7,5,40,6,11,4,0] rfl),(H.keep [0] rfl rfl),by show _ - (j + 1) < _ - j;omega⟩
    try simp only [bq] at hc27
    obtain rfl:j = o.ws.length:=by omega
    rw [show preT (l.map En.p) k++(hdL o.p++wsT o.ws o.ws.length) = preT (l.map En.p) (k + 1) from (preT_step hmo).symm] at T H;refine wp_exit <| then_exit ?_;refine then_exit <| block_exit <| block_normal ?_;refine then_normal (Q22 _ _ ?_);clear Q22;refine wp_text (zz 0 [tt,tt,tt]) rfl ?_;refine mv T rfl fun _ T=> tad T rfl (by omega) fun _ T=> asn T rfl fun _ T=> ?_;replace T:=T.keep [6,57,7,5,40,11,4,0] rfl;refine ser_nil ?_;refine then_normal ?_;exact ⟨(k + 1,ad2,c2),(by show k + 1≤_;omega),(T.keep [6,5,11,4,0] rfl),(H.keep [0] rfl rfl),by show _ - (k + 1) < _ - k;omega⟩
  try simp only [bq] at hc21
  obtain rfl:k = l.length:=by omega
  rw [preT_all (by rw [List.length_map];exact Nat.le_refl _)] at T H;have hh8:(hex8 (crc (bodyT (l.map En.p)))).length = 8:=rfl;refine wp_exit <| then_exit ?_;refine then_exit <| block_exit ?_;revert Q17;refine nx fun _ Q29=>?_;revert H;refine drw (Sx.No) [(0,.take),(1,.held),(2,.take),(3,.take),(4,.keep),(5,.keep),(6,.take),(7,.take),(8,.take),(9,.take)] (by kernel_rfl) (by kernel_rfl) fun u H hH=>?_;have Hu:=H;refine mv T rfl fun _ T=> ?_;refine hed T rfl hH (fun w' h'=>x_bytes_string T rfl ((Hu.heldR 0 rfl h' off_No).bs) underlying39 underlying5 underlying9 rfl rfl) fun _ T=> ?_;refine tct T rfl (by simp only [ll];omega) fun _ T=> mv T rfl fun _ T=> ?_;refine calk T hH H can35 rfl (xSum_calls (bodyT (l.map En.p)) ((H.row 0 rfl).bs) (by omega)) fun w10 hH H _ T=> ?_;refine calk T hH H can34 rfl (xhex_calls (crc (bodyT (l.map En.p))) (crc_lt _) _) fun w11 hH H _ T=> ?_;refine tct T rfl (by simp only [ll];omega) fun _ T=> ?_;refine tct T rfl (by simp only [ll];omega) fun _ T=> asn T rfl fun _ T=> asn T rfl fun _ T=> ?_;replace T:=T.keep [3,2,40,6,5,11,4,0] rfl;clear Hu hH;refine ser_calm ?_;refine then_normal (Q29 _ _ ?_);clear Q29;refine wp_ret ?_;refine dn2 Tryz.f12 T rfl ?_;rw [printL_yes hok9];refine ⟨congrArg (fun l:List UInt8=>Ending.returned (Value.tuple #[Value.string ⟨l.toArray⟩,.int .i64 0])) ?_,H.ext⟩;unfold textT sumT;simp
set_option maxHeartbeats 1000000 in
set_option maxRecDepth 100000 in
theorem cc_used (b:Nat) (w:World) (h0:w.cell? ⟨b,0,none⟩ = some (.pointer (some ⟨b,0,none⟩))):Calls Tryz.prog 51 #[.pointer (some ⟨b,0,none⟩)] w fun e w'=>e = .returned (.tuple #[])∧w' = w:=by
  obtain ⟨j,hj,_⟩:=Option.map_eq_some_iff.1 (show (Tryz.prog.info? 57).map (·.size) = some 2 from by kernel_rfl)
  have mixed:Tryz.prog.follows .mixedOrders = true:=by kernel_rfl
  have t57:=underlying57;have a57:=Tryz.isAgg57;have z57:=Tryz.sizeOf57;have v57:=Tryz.zeroValue57;have u57:=run_underlying underlying57
  have t55:=underlying55;have a55:=Tryz.isAgg55;have z55:=Tryz.sizeOf55;have v55:=Tryz.zeroValue55;have u55:=run_underlying underlying55
  have t9:=underlying9;have a9:=Tryz.isAgg9;have z9:=Tryz.sizeOf9;have v9:=Tryz.zeroValue9;have u9:=run_underlying underlying9
  have t4:=underlying4;have a4:=Tryz.isAgg4;have z4:=Tryz.sizeOf4;have v4:=Tryz.zeroValue4;have u4:=run_underlying underlying4
  have t115:=underlying115;have a115:=Tryz.isAgg115;have z115:=Tryz.sizeOf115;have v115:=Tryz.zeroValue115;have u115:=run_underlying underlying115
  go_enter func51,ntmps51
  go_wp2
  rw [Lib.run_neq_ptr_same w _ underlying55 hj]
  go_wp2
  go_end0
  exact ⟨rfl,rfl⟩
set_option maxHeartbeats 1000000 in
set_option maxRecDepth 100000 in
theorem cc_fresh (b:Nat) (w:World) (h0:w.cell? ⟨b,0,none⟩ = some (.pointer none)) (hsh:w.shape? b = some (57,2)) (hfz:w.frozen? ⟨b,0,none⟩ = false) :
    Calls Tryz.prog 51 #[.pointer (some ⟨b,0,none⟩)] w fun e w'=>e = .returned (.tuple #[])∧w' = w.setCell ⟨b,0,none⟩ (.pointer (some ⟨b,0,none⟩)):=by
  obtain ⟨j,hj,hjs⟩:=Option.map_eq_some_iff.1 (show (Tryz.prog.info? 57).map (·.size) = some 2 from by kernel_rfl)
  have mixed:Tryz.prog.follows .mixedOrders = true:=by kernel_rfl
  have t57:=underlying57;have a57:=Tryz.isAgg57;have z57:=Tryz.sizeOf57;have v57:=Tryz.zeroValue57;have u57:=run_underlying underlying57
  have t55:=underlying55;have a55:=Tryz.isAgg55;have z55:=Tryz.sizeOf55;have v55:=Tryz.zeroValue55;have u55:=run_underlying underlying55
  have t9:=underlying9;have a9:=Tryz.isAgg9;have z9:=Tryz.sizeOf9;have v9:=Tryz.zeroValue9;have u9:=run_underlying underlying9
  have t4:=underlying4;have a4:=Tryz.isAgg4;have z4:=Tryz.sizeOf4;have v4:=Tryz.zeroValue4;have u4:=run_underlying underlying4
  have t115:=underlying115;have a115:=Tryz.isAgg115;have z115:=Tryz.sizeOf115;have v115:=Tryz.zeroValue115;have u115:=run_underlying underlying115
  go_enter func51,ntmps51
  go_wp2
  rw [Lib.run_to_unsafe w ⟨b,0,none⟩ underlying55 underlying115 hj (by rw [hjs];decide) hsh (Nat.zero_lt_succ 1)]
  simp only [Result.andThen]
  rw [Oper.upon_value]
  go_wp2
  rw [run_callFunc_extern func86 (by kernel_rfl) (by kernel_rfl) (by kernel_rfl) (e:=Extern.AbiNoEscape.same) (by kernel_rfl)]
  rw [Lib.run_noEscape]
  simp only [Result.andThen]
  rw [Oper.upon_value]
  go_wp2
  rw [Lib.run_from_unsafe w ⟨b,0,none⟩ underlying115 underlying55 hj hsh (show liesAt Tryz.prog Tryz.prog.depth 57 (2 / Tryz.prog.cellsOf 57) 0 57 1 = true from by kernel_rfl)]
  simp only [Result.andThen]
  rw [Oper.upon_value]
  go_wp2
  go_end0
  exact ⟨rfl,rfl⟩
theorem set_ext {b:Nat} {e:TypeId} {u v:Value} {vs:List Value} {w:World} (h:Blk w b (u :: vs) e):Blk (w.setCell ⟨b,0,none⟩ v) b (v :: vs) e∧Ext (One b) w (w.setCell ⟨b,0,none⟩ v):=by
  unfold Blk at h
  refine ⟨?_,rfl,rfl,rfl,by simp [World.setCell],fun k hk hne=>?_,Nat.le_refl _⟩
  · unfold Blk
    simp [World.setCell,Array.getElem?_modify,h]
  simp only [World.setCell]
  rw [Array.getElem?_modify,if_neg (fun e=>hne e.symm)]
theorem cc_calls {S:Nat→Prop} (b:Nat) {p v:Value} (hp:p = .pointer none∨p = .pointer (some ⟨b,0,none⟩)) {w0 w:World} (H:Hp w0 S w [cB b [p,v] 57]) :
    Calls Tryz.prog 51 #[.pointer (some ⟨b,0,none⟩)] w fun e w'=>e = .returned (.tuple #[])∧Hp w0 S w' [cB b [.pointer (some ⟨b,0,none⟩),v] 57]:=by
  have hb:=H.blk 0 rfl
  rcases hp with rfl | rfl
  · refine (cc_fresh b w (hb.nth rfl) (by unfold Blk at hb;simp [World.shape?,hb]) (hb.frozen 0)).mono ?_
    rintro e w' ⟨rfl,rfl⟩
    obtain ⟨h1,x⟩:=set_ext (v:=.pointer (some ⟨b,0,none⟩)) hb
    exact ⟨rfl,H.setB 0 rfl h1 x rfl⟩
  refine (cc_used b w (hb.nth rfl)).mono ?_
  rintro e w' ⟨rfl,rfl⟩
  exact ⟨rfl,H⟩
theorem WS_calls {S:Nat→Prop} (b:Nat) {p:Value} (hp:p = .pointer none∨p = .pointer (some ⟨b,0,none⟩)) {ad:Option Addr} {c:Nat} (t s:List UInt8) (hl:t.length + s.length≤140737488355328) (w:World) (H:Hp w S w [cB b [p,.slice ad (t).length c] 57,cR 5 1 ad (t).length c (bcells (t))]):Calls Tryz.prog 26 #[.pointer (some ⟨b,0,none⟩),.string ⟨s.toArray⟩] w fun e w'=>∃ ad' c',e = .returned (.tuple #[.int .i64 (s.length:Int),.nilIface])∧Hp w S w' [cB b [.pointer (some ⟨b,0,none⟩),.slice ad' (t++s).length c'] 57,cR 5 1 ad' (t++s).length c' (bcells (t++s))]:=by
  refine calls_into func26 rfl ntmps26 rfl fun _ T=> ?_;replace T:=T.keep [0,1] rfl;refine sj (zz 0 [tt,tt]) rfl fun _ Q1=>?_;refine asn T rfl fun _ T=> asn T rfl fun _ T=> ?_;revert Q1 T;refine rg [5,4,0,1] (zz 0 [tt,uu]) rfl fun _ Q2 T=>?_;refine mv T rfl fun _ T=> ?_;refine st_call T rfl rfl rfl rfl rfl can51 rfl (cc_calls b hp (H.pre [0] rfl rfl)) ?_;rintro _ w1 ⟨rfl,K⟩;refine ⟨_,rfl,?_⟩;clear T;intro a T;replace H:=H.back [0] [1] rfl rfl rfl K rfl;clear K;revert Q2 T;refine rg [5,4,0,1] (zz 0 [tt,tt,tt,tt,uu,tt,uu,tt,tt,uu]) rfl fun _ Q3 T=>?_;refine mv T rfl fun _ T=> mv T rfl fun _ T=> nck T rfl fun _ T=> fad T fa57_1 rfl fun _ T=> tld T fl39 (H.blk 0 rfl) rfl ?_
  clear T;intro a T;refine mv T rfl fun _ T=> ?_;refine st_eff T rfl rfl rfl rfl (x_appendS T rfl rfl underlying39 underlying9 ti5 rfl rfl (H.row 1 rfl) (by omega)) ?_;rintro _ w2 ⟨ad2,c2,rfl,hr,E,hown⟩;clear T;intro a T;replace H:=H.setR 1 rfl hr E hown rfl;clear hr E hown;rw [show t.length + s.length = (t++s).length from List.length_append.symm] at T H;rw [show bcells t++bcells s = bcells (t++s) from (bcells_append _ _).symm] at H;refine nck T rfl fun _ T=> fad T fa57_1 rfl fun _ T=> ?_;refine st_act T rfl rfl rfl (y_store1 T rfl ti39 rfl rfl rfl (H.blk 0 rfl) rfl) ?_;rintro w3 ⟨hb,E,_⟩;replace H:=H.setB 0 rfl hb E rfl;clear hb E;revert Q3 T;refine rg [5,4,0,1] (zz 0 [tt,tt,tt,tt]) rfl fun _ Q4 T=>?_;refine mv T rfl fun _ T=> tls T underlying9 rfl fun _ T=> asn T rfl fun _ T=> asn T rfl fun _ T=> ?_;revert Q4 T;refine rp [5,4,0,1] rfl fun T=>?_;refine wp_ret ?_;refine dn2 Tryz.f26 T rfl ?_;exact ⟨_,_,rfl,H.keep [0,1] rfl rfl⟩
theorem BS_calls (b:Nat) {p:Value} (hp:p = .pointer none∨p = .pointer (some ⟨b,0,none⟩)) {ad:Option Addr} {c:Nat} (t:List UInt8) {w0 w:World} (H:Hp w0 No w [cB b [p,.slice ad t.length c] 57,cR 5 1 ad t.length c (bcells t)]):Calls Tryz.prog 29 #[.pointer (some ⟨b,0,none⟩)] w fun e w'=>e = .returned (.string ⟨t.toArray⟩)∧Hp w0 No w' []:=by
  have hb:=H.blk 0 rfl
  have hr:=H.row 1 rfl
  have hx:=H.ext
  have hge:∀ (ch:Chunk) (k:Nat),ch ∈ [cB b [p,.slice ad t.length c] 57,cR 5 1 ad t.length c (bcells t)]→ch.1 k→w0.heap.size≤k:=fun ch k hc hk=>by
    have h9:=(H.own ch hc k hk).2
    exact Nat.not_lt.1 fun h8=>(h9 h8)
  have hrow:w.ownsRow w0.heap.size 5 1 (.slice ad t.length c) t.length (bcells t):=by
    obtain ⟨h1,h2⟩:=hr.owns
    refine ⟨h1,h2.imp id ?_⟩
    rintro ⟨g,cap,cur,hv,-,hrest⟩
    refine ⟨g,cap,cur,hv,?_,hrest⟩
    simp only [Value.slice.injEq] at hv
    exact hge (cR 5 1 ad t.length c (bcells t)) g (by simp) (by rw [hv.1];rfl)
  have hne:(Value.slice ad t.length c).ownBlock ≠ some b:=by
    intro h9
    cases ad with
    | none=>simp [Value.ownBlock] at h9
    | some q=>
      simp only [Value.ownBlock,Option.some.injEq] at h9
      exact H.off 0 1 rfl rfl rfl b hb.lt rfl (show Own (some q) b from by simp [Own,h9])
  have hB:Lib.IsBuilder 57 5 w0.heap.size b (Lib.byteCells t) w:=by
    have h1:∀ p,Blk w b [p,.slice ad t.length c] 57→Lib.BuilderAt 57 5 w0.heap.size b p (Lib.byteCells t) w:=fun p hb=>⟨hge _ b (List.mem_cons_self ..) rfl,_,hb,by
      have e:(Lib.byteCells t).length = t.length:=by simp [Lib.byteCells]
      rw [e]
      exact hrow,hne⟩
    rcases hp with rfl | rfl
    · exact .inl (h1 _ hb)
    exact .inr (h1 _ hb)
  refine (calls_drawn (Tryz.Builder_String_any w0.heap.size b t w hB hx.size)).mono fun e w' h=>?_
  obtain ⟨⟨rfl,h⟩,hd⟩:=h
  refine ⟨rfl,⟨⟨h.os.trans hx.os,h.tape.trans hx.tape,h.output.trans hx.output,Nat.le_trans hx.size h.size,fun k hk _=>(h.block k hk).trans (hx.block k hk (not_No _)),Nat.le_trans hx.drawn (hd ⟨_,rfl⟩)⟩,fun i j c d h=>by simp at h,fun c h=>by simp at h,fun c h=>by simp at h⟩⟩
def lastS (l:List Ep):Nat→Stp
  | 0=>sz0
  | k + 1=>match l[k]? with
    | some x=>x.s
    | none=>sz0
theorem lastS_next {l:List Ep} {k:Nat} {x:Ep} (h:l[k]? = some x):lastS l (k + 1) = x.s:=by
  simp only [lastS,h]
theorem okE_parts {x:Ep} (h:okE x = true):mayS x.s = true∧x.s ≠ sz0:=by
  unfold okE emay at h
  simp only [Bool.and_eq_true,Bool.not_eq_true',decide_eq_false_iff_not] at h
  exact ⟨h.1.1.2,h.1.2⟩
theorem okE_pos {x:Ep} (h:okE x = true):ltS sz0 x.s:=by
  obtain ⟨h1,h2⟩:=okE_parts h
  unfold mayS at h1
  have h1:=of_decide_eq_true h1
  rcases ltS_tot sz0 x.s with h3 | h3 | h3
  · exact h3
  · exact absurd h3.symm h2
  unfold ltS sz0 at h3
  dsimp only at h3
  omega
theorem ebad_cmp {l:List Ep} {k:Nat} {x:Ep} (h:l[k]? = some x) (hm:okE x = true):ebad l k = if cmpS x.s (lastS l k)≤0 then 20 else 0:=by
  cases k with
  | zero=>
    rw [ebad_zero h hm,if_neg]
    rw [cmp_le]
    exact fun h9=>h9 (okE_pos hm)
  | succ j=>
    have hj:j < l.length:=by have:=(List.getElem?_eq_some_iff.1 h).1;omega
    have hy:l[j]? = some l[j]:=List.getElem?_eq_getElem hj
    rw [ebad_next h (Nat.succ_pos j) (by rw [Nat.add_sub_cancel];exact hy) hm,lastS_next hy]
    by_cases h9:ltS l[j].s x.s
    · rw [if_pos h9,if_neg (by rw [cmp_le];exact fun h8=>h8 h9)]
    rw [if_neg h9,if_pos (by rw [cmp_le];exact h9)]
set_option maxHeartbeats 1600000 in
theorem PrintL_calls {ad:Option Addr} {c:Nat} (l:List En) {w:World} (hs:Ss w ad En.cells 7 l) (hw:∀ x ∈ l,PrE w x) (hl:l.length≤1000000) (hb:(bodyT (l.map En.p)).length≤50000000) (ht:Env w):Calls Tryz.prog 11 #[.slice ad l.length c] w fun e w'=>e = .returned (.tuple #[.string ⟨(printL (l.map En.p)).1.toArray⟩,.int .i64 (printL (l.map En.p)).2])∧Ext No w w':=by
  have R:Ro w No _:=Ro.of fun w' x=>hs.ext_no x;have RM:Ro w No (fun u=>∀ x ∈ l,Ss u x.ad Wt.cells 4 x.ws):=Ro.of fun w' x y hy=>((hw y hy).ss).ext_no x;have RE:Ro w No _:=Ro.of fun w' x=>Env.ext ht x;refine calls_into func11 rfl ntmps11 rfl fun _ T=> ?_;replace T:=T.keep [0] rfl;have H:Sx.Hp w (Sx.No) w []:=Sx.Hp.start _ _;refine sj (zz 0 [tt,tt]) rfl fun _ Q1=>?_;refine asn T rfl fun _ T=> asn T rfl fun _ T=> ?_;revert Q1 T;refine rg [3,2,0] (zz 0 [uu]) rfl fun _ Q2 T=>?_;refine st_eff T rfl rfl rfl rfl (y_alloc T rfl ti57 rfl _) ?_;clear T;rintro _ w1 ⟨b1,rfl,N⟩ a T;replace H:=H.new N;clear N;revert Q2 T;refine rg [4,3,2,0] (zz 0 [tt,uu,uu]) rfl fun _ Q3 T=>?_;refine bd T bld28 rfl fun _ T=> ?_;refine st_eff T rfl rfl rfl rfl (y_alloc T rfl ti28 rfl _) ?_;clear T;rintro _ w2 ⟨b2,rfl,N⟩ a T;replace H:=H.new N;clear N;refine stS 0 T H ti28 rfl rfl fun w3 H=>?_
  revert Q3 T;refine rq [5,4,3,2,0] rfl fun _ Q4 T=>?_;refine sj (zz 0 [tt,tt,tt]) rfl fun _ Q5=>?_;refine mv T rfl fun _ T=> tln T underlying22 rfl fun _ T=> mv T rfl fun _ T=> ?_;revert Q5 T;refine rp [14,13,12,5,4,3,2,0] rfl fun T=>?_;refine wp_block ?_;replace H:=H.nilR 5 1;refine wp_loopH (G:=Nat × Value × Option Addr × Nat) (fun ⟨k,p,ad2,c2⟩=>[(14,.int .i64 (k:Int))]) (fun ⟨k,p,ad2,c2⟩=>[cB b1 [p,.slice ad2 (preT (l.map En.p) k).length c2] 57,cR 5 1 ad2 (preT (l.map En.p) k).length c2 (bcells (preT (l.map En.p) k)),cB b2 [.int .i64 (lastS (l.map En.p) k).w,.int .i64 (lastS (l.map En.p) k).l,.int .i64 (lastS (l.map En.p) k).n] 28]) (fun ⟨k,p,ad2,c2⟩=>(p = .pointer none∨p = .pointer (some ⟨b1,0,none⟩))∧k≤l.length∧∀ i,i < k→ebad (l.map En.p) i = 0) (fun ⟨k,p,ad2,c2⟩=>l.length - k) (0,.pointer none,none,0) (T.keep [14,13,12,5,4,0] rfl) (H.keep [2,0,1] rfl rfl) (⟨.inl rfl,Nat.zero_le _,fun i h=>absurd h (Nat.not_lt_zero _)⟩) ?_;clear T H;rintro ⟨k,p,ad2,c2⟩ a w4 hJ T H;replace T:=T.keep [14,13,12,5,4,0] rfl;replace H:=H.keep [0,1,2] rfl rfl
  obtain ⟨hp,hk,hks⟩:=hJ;have hpl9:=preT_le (l.map En.p) k;refine sj (zz 0 [tt]) rfl fun _ Q6=>?_;refine tlt T rfl fun _ T=> ?_;revert Q6 T;refine rq [15,14,13,12,5,4,0] rfl fun _ Q7 T=>?_;refine wp_if T rfl (fun hc8=>?_) (fun hc8=>?_)
  · try simp only [bq] at hc8
    obtain ⟨o,ho⟩:∃ q9,l[k]? = some q9:=⟨_,List.getElem?_eq_getElem (by omega)⟩;have hom:=List.mem_of_getElem? ho;have hpo:=hw o hom;have hmo:=map_at ho;have hlw:=hpo.lw;have hk9:k < (l.map En.p).length:=by rw [List.length_map];omega
    have hpj0:(preT (l.map En.p) k).length + (lin (hdT o.t o.s o.ws.length)).length + (wsT o.p.ws 0).length≤(bodyT (l.map En.p)).length:=part_le hmo 0;have hln:(lin (hdT o.t o.s o.ws.length)).length = (hdT o.t o.s o.ws.length).length + 1:=by simp [lin]
    refine wp_skip ?_;revert Q7;refine nx fun _ Q9=>?_;refine wp_block ?_;refine sj (zz 0 [tt,uu,uu,uu]) rfl fun _ Q10=>?_;refine tk T rfl (x_index (k:=k) T rfl underlying22 ti31 (by first | exact (R.at H.ext).sv | exact ((RM.at H.ext) o hom).sv) rfl rfl (by first | rfl | omega) (by omega)) fun _ T=> ?_;refine rn T rfl (y_loadS T rfl underlying31 ti31 rfl (by first | exact ((H.blk 0 rfl).seg (k:=7) rfl) | exact ((H.blk 2 rfl).seg (k:=7) rfl) | exact ((R.at H.ext).cs En.len ho) | exact (((RM.at H.ext) o hom).cs Wt.len hv)) (by rfl)) fun _ T=> ?_;refine st_eff T rfl rfl rfl rfl (y_alloc T rfl ti31 rfl _) ?_;clear T;rintro _ w5 ⟨b3,rfl,N⟩ a T;replace H:=H.new N;clear N;refine stS 0 T H ti31 rfl rfl fun w6 H=>?_;revert Q10 T;refine rq [7,15,14,13,12,5,4,0] rfl fun _ Q11 T=>?_;refine wp_block ?_;refine sj (zz 0 [uu,uu,tt,tt]) rfl fun _ Q12=>?_;refine rn T rfl (y_loadS T rfl underlying31 ti31 rfl ((H.blk 0 rfl).seg (k:=7) rfl) (by rfl)) fun _ T=> ?_;refine cal T H can24 rfl (may_calls o.t o.s o.ws ((RM.at H.ext) o hom) hpo.lw) fun w7 H _ T=> nt T rfl fun _ T=> asn T rfl fun _ T=> ?_;revert Q12 T;refine rif [18,7,15,14,13,12,5,4,0] rfl (fun T hc13=>?_) (fun T hc13=>?_)
    · try simp only [bq] at hc13
      have hmy:okE o.p = false:=by have h9:=hc13;show emay o.t o.s o.ws = false;simpa using h9
      refine sj (zz 0 [tt,tt]) rfl fun _ Q14=>?_;refine asn T rfl fun _ T=> asn T rfl fun _ T=> ?_;revert Q14 T;refine rp [3,2,18,7,15,14,13,12,5,4,0] rfl fun T=>?_;refine wp_ret <| block_ret ?_;refine then_ret <| block_ret ?_;refine then_ret <| then_ret ?_;refine block_ret <| then_ret ?_;clear Q11 Q9 Q4;refine dn2 Tryz.f11 T rfl ?_;rw [printL_no hks hk9 4 (ebad_may hmo hmy) (by decide)];exact ⟨rfl,H.ext⟩
    try simp only [bq] at hc13
    have hmy:okE o.p = true:=by have h9:=hc13;show emay o.t o.s o.ws = true;simpa using h9
    refine sj (zz 0 [tt,uu,uu,uu,tt,tt]) rfl fun _ Q15=>?_;refine fad T fa31_1 rfl fun _ T=> ?_;refine rn T rfl (y_loadS T rfl underlying28 ti28 rfl ((H.blk 0 rfl).seg (k:=3) rfl) (by rfl)) fun _ T=> ?_;refine rn T rfl (y_loadS T rfl underlying28 ti28 rfl ((H.blk 3 rfl).seg (k:=3) rfl) (by rfl)) fun _ T=> ?_;refine cal T H can25 rfl (Compare_calls o.s (lastS (l.map En.p) k) _) fun w8 H _ T=> tle T rfl fun _ T=> asn T rfl fun _ T=> ?_;revert Q15 T;refine rif [22,18,7,15,14,13,12,5,4,0] rfl (fun T hc16=>?_) (fun T hc16=>?_)
    · try simp only [bq] at hc16
      have hc9:cmpS o.p.s (lastS (l.map En.p) k)≤0:=hc16;refine sj (zz 0 [tt,tt]) rfl fun _ Q17=>?_;refine asn T rfl fun _ T=> asn T rfl fun _ T=> ?_;revert Q17 T;refine rp [3,2,22,18,7,15,14,13,12,5,4,0] rfl fun T=>?_;refine wp_ret <| block_ret ?_;refine then_ret <| block_ret ?_;refine then_ret <| then_ret ?_;refine block_ret <| then_ret ?_;clear Q11 Q9 Q4;refine dn2 Tryz.f11 T rfl ?_;rw [printL_no hks hk9 20 (by rw [ebad_cmp hmo hmy];exact if_pos hc9) (by decide)];exact ⟨rfl,H.ext⟩
    try simp only [bq] at hc16
    have heb9:ebad (l.map En.p) k = 0:=by rw [ebad_cmp hmo hmy];exact if_neg (show ¬ cmpS o.s (lastS (l.map En.p) k)≤0 by omega)
    refine wp_skip <| block_normal ?_;revert Q11;refine nx fun _ Q18=>?_;refine wp_text (zz 0 [tt,uu,uu]) rfl ?_;refine fad T fa31_1 rfl fun _ T=> ?_;refine rn T rfl (y_loadS T rfl underlying28 ti28 rfl ((H.blk 0 rfl).seg (k:=3) rfl) (by rfl)) fun _ T=> ?_;refine stS 3 T H ti28 rfl rfl fun w9 H=>?_;revert Q18 T;refine rg [22,18,7,15,14,13,12,5,4,0] (zz 0 [uu,uu,tt,uu]) rfl fun _ Q19 T=>?_;refine rn T rfl (y_loadS T rfl underlying31 ti31 rfl ((H.blk 0 rfl).seg (k:=7) rfl) (by rfl)) fun _ T=> ?_;refine cal T H can27 rfl (head_calls o.t o.s o.ws hpo.is hpo.it hpo.lw _ (RE.at H.ext).tab) fun w10 H _ T=> ?_;refine tct T rfl (by simp only [ll];omega) fun _ T=> ?_;refine st_call T rfl rfl rfl rfl rfl can26 rfl (WS_calls b1 hp (preT (l.map En.p) k) (lin (hdT o.t o.s o.ws.length)) (by omega) _ (H.pre [1,2] rfl rfl)) ?_
    rintro _ w11 ⟨ad6,c6,rfl,K⟩;refine ⟨_,rfl,?_⟩;clear T;intro a T;replace H:=H.back [1,2] [0,3] rfl rfl rfl K rfl;clear K;revert Q19 T;refine rg [22,18,7,15,14,13,12,5,4,0] (zz 0 [tt,uu,tt,tt]) rfl fun _ Q20 T=>?_;refine fad T fa31_2 rfl fun _ T=> tld T fl29 (H.blk 2 rfl) rfl fun _ T=> tln T underlying29 rfl fun _ T=> mv T rfl fun _ T=> ?_;revert Q20 T;refine rp [37,36,35,22,18,7,15,14,13,12,5,4,0] rfl fun T=>?_;refine wp_block ?_;rw [show preT (l.map En.p) k++lin (hdT o.t o.s o.ws.length) = preT (l.map En.p) k++(hdL o.p++wsT o.ws 0) from by simp [wsT,hdL,En.p]] at H;refine wp_loopH (G:=Nat × Option Addr × Nat) (fun ⟨j,ad2,c2⟩=>[(37,.int .i64 (j:Int))]) (fun ⟨j,ad2,c2⟩=>[cB b1 [.pointer (some ⟨b1,0,none⟩),.slice ad2 (preT (l.map En.p) k++(hdL o.p++wsT o.ws j)).length c2] 57,cR 5 1 ad2 (preT (l.map En.p) k++(hdL o.p++wsT o.ws j)).length c2 (bcells (preT (l.map En.p) k++(hdL o.p++wsT o.ws j)))]) (fun ⟨j,ad2,c2⟩=>j≤o.ws.length) (fun ⟨j,ad2,c2⟩=>o.ws.length - j) (0,ad6,c6) (T.keep [37,36,35,22,18,7,15,14,13,12,5,4,0] rfl) (H.keep [0,1,2,3] rfl rfl) (Nat.zero_le _) ?_
    clear T H;rintro ⟨j,ad2,c2⟩ a w12 hJ T H;replace T:=T.keep [37,36,35,22,18,7,15,14,13,12,5,4,0] rfl;replace H:=H.keep [0,1,2,3] rfl rfl;have hj:j≤o.ws.length:=hJ;have hpj:(preT (l.map En.p) k).length + (hdL o.p).length + (wsT o.ws j).length≤(bodyT (l.map En.p)).length:=part_le hmo j;have hpj2:(preT (l.map En.p) k).length + (hdL o.p).length + (wsT o.ws (j + 1)).length≤(bodyT (l.map En.p)).length:=part_le hmo (j + 1);have hbt:(preT (l.map En.p) k++(hdL o.p++wsT o.ws j)).length = (preT (l.map En.p) k).length + (hdL o.p).length + (wsT o.ws j).length:=by rw [List.length_append,List.length_append];omega
    refine sj (zz 0 [tt]) rfl fun _ Q21=>?_;refine tlt T rfl fun _ T=> ?_;revert Q21 T;refine rq [38,37,36,35,22,18,7,15,14,13,12,5,4,0] rfl fun _ Q22 T=>?_;refine wp_if T rfl (fun hc23=>?_) (fun hc23=>?_)
    · try simp only [bq] at hc23
      obtain ⟨v,hv⟩:∃ q9,o.ws[j]? = some q9:=⟨_,List.getElem?_eq_getElem (by omega)⟩;have hvm:=List.mem_of_getElem? hv;have hpw:(wsT o.ws (j + 1)).length = (wsT o.ws j).length + (lin (wrT v)).length:=by rw [wsT_step hv,List.length_append]
      have hlv:(lin (wrT v)).length = (wrT v).length + 1:=by simp [lin]
      refine wp_skip ?_;revert Q22;refine nx fun _ Q24=>?_;refine wp_block ?_;refine sj (zz 0 [tt,uu,uu,uu]) rfl fun _ Q25=>?_;refine tk T rfl (x_index (k:=j) T rfl underlying29 ti53 (by first | exact (R.at H.ext).sv | exact ((RM.at H.ext) o hom).sv) rfl rfl (by first | rfl | omega) (by omega)) fun _ T=> ?_;refine rn T rfl (y_loadS T rfl underlying53 ti53 rfl (by first | exact ((H.blk 0 rfl).seg (k:=4) rfl) | exact ((H.blk 2 rfl).seg (k:=4) rfl) | exact ((H.blk 3 rfl).seg (k:=4) rfl) | exact ((R.at H.ext).cs En.len ho) | exact (((RM.at H.ext) o hom).cs Wt.len hv)) (by rfl)) fun _ T=> ?_;refine st_eff T rfl rfl rfl rfl (y_alloc T rfl ti53 rfl _) ?_;clear T;rintro _ w13 ⟨b4,rfl,N⟩ a T;replace H:=H.new N;clear N;refine stS 0 T H ti53 rfl rfl fun w14 H=>?_;revert Q25 T;refine rp [9,38,37,36,35,22,18,7,15,14,13,12,5,4,0] rfl fun T=>?_;refine wp_text (zz 0 [uu,uu,tt,uu]) rfl ?_;refine rn T rfl (y_loadS T rfl underlying53 ti53 rfl ((H.blk 0 rfl).seg (k:=4) rfl) (by rfl)) fun _ T=> ?_;refine cal T H can28 rfl (line_calls v (hpo.wf v hvm).1 (hpo.wf v hvm).2.1 (hpo.wf v hvm).2.2 _ (RE.at H.ext)) fun w15 H _ T=> ?_;refine tct T rfl (by simp only [ll];omega) fun _ T=> ?_;refine st_call T rfl rfl rfl rfl rfl can26 rfl (WS_calls b1 (.inr rfl) (preT (l.map En.p) k++(hdL o.p++wsT o.ws j)) (lin (wrT v)) (by omega) _ (H.pre [1,2] rfl rfl)) ?_;rintro _ w16 ⟨ad5,c5,rfl,K⟩;refine ⟨_,rfl,?_⟩;clear T;intro a T;replace H:=H.back [1,2] [0,3,4] rfl rfl rfl K rfl;clear K;replace T:=T.keep [9,38,37,36,35,22,18,7,15,14,13,12,5,4,0] rfl;refine ser_nil ?_;refine block_normal ?_;refine then_normal (Q24 _ _ ?_);clear Q24;refine wp_text (zz 0 [tt,tt]) rfl ?_;refine tad T rfl (by omega) fun _ T=> mv T rfl fun _ T=> ?_;replace T:=T.keep [37,9,38,36,35,22,18,7,15,14,13,12,5,4,0] rfl;refine ser_nil ?_;refine then_normal ?_;rw [show (preT (l.map En.p) k++(hdL o.p++wsT o.ws j))++lin (wrT v) = preT (l.map En.p) k++(hdL o.p++wsT o.ws (j + 1)) from by rw [wsT_step hv];simp] at H;exact ⟨(j + 1,ad5,c5),(by show j + 1≤_;omega),(T.keep [37,36,35,22,18,7,15,14,13,12,5,4,0] rfl),(H.keep [0,1,3,4] rfl rfl),by show _ - (j + 1) < _ - j;omega⟩
    try simp only [bq] at hc23
    obtain rfl:j = o.ws.length:=by omega
    rw [show preT (l.map En.p) k++(hdL o.p++wsT o.ws o.ws.length) = preT (l.map En.p) (k + 1) from (preT_step hmo).symm] at H;refine wp_exit <| then_exit ?_;refine then_exit <| block_exit <| block_normal ?_;refine then_normal (Q9 _ _ ?_);clear Q9;refine wp_text (zz 0 [tt,tt]) rfl ?_;refine tad T rfl (by omega) fun _ T=> mv T rfl fun _ T=> ?_;replace T:=T.keep [14,38,37,36,35,22,18,7,15,13,12,5,4,0] rfl;refine ser_nil ?_;refine then_normal ?_;rw [show o.s = lastS (l.map En.p) (k + 1) from (lastS_next hmo).symm] at H;exact ⟨(k + 1,.pointer (some ⟨b1,0,none⟩),ad2,c2),⟨.inr rfl,by show k + 1≤_;omega,fun i hi=>by
                  rcases Nat.lt_or_ge i k with h9 | h9
                  · exact hks i h9
                  obtain rfl:i = k:=(by have:i < k + 1:=hi;omega)
                  exact heb9⟩,(T.keep [14,13,12,5,4,0] rfl),(H.keep [0,1,3] rfl rfl),by show _ - (k + 1) < _ - k;omega⟩
  try simp only [bq] at hc8
  obtain rfl:k = l.length:=by omega
  have hok9:∀ i,i < (l.map En.p).length→ebad (l.map En.p) i = 0:=fun i hi=>hks i (by rw [List.length_map] at hi;exact hi);rw [preT_all (by rw [List.length_map];exact Nat.le_refl _)] at H;have hh8:(sumT (bodyT (l.map En.p))).length = 10:=rfl;refine wp_exit <| then_exit ?_;refine then_exit <| block_exit ?_;revert Q4;refine nx fun _ Q26=>?_;refine wp_text (zz 0 [uu,tt]) rfl ?_;refine st_call T rfl rfl rfl rfl rfl can29 rfl (BS_calls b1 hp (bodyT (l.map En.p)) (H.keep [0,1] rfl rfl)) ?_;rintro _ w17 ⟨rfl,K⟩;refine ⟨_,rfl,?_⟩;clear T;intro a T;clear H;rename Hp _ _ _ _=>H;refine asn T rfl fun _ T=> ?_;revert Q26 T;refine rg [10,15,14,13,12,5,4,0] (zz 0 [tt,tt,uu,tt,tt,tt,tt]) rfl fun _ Q27 T=>?_;refine mv T rfl fun _ T=> mv T rfl fun _ T=> ?_;refine cal T H can30 rfl (sum_calls (bodyT (l.map En.p)) (by omega) _ (RE.at H.ext)) fun w18 H _ T=> ?_;refine tk T rfl ((fun w=>x_catL w T rfl rfl rfl (by omega))) ?_
  clear T;intro a T;refine tct T rfl (by simp only [ll];omega) fun _ T=> asn T rfl fun _ T=> asn T rfl fun _ T=> ?_;revert Q27 T;refine rp [3,2,10,15,14,13,12,5,4,0] rfl fun T=>?_;refine wp_ret ?_;refine dn2 Tryz.f11 T rfl ?_;rw [printL_yes hok9];refine ⟨congrArg (fun l:List UInt8=>Ending.returned (Value.tuple #[Value.string ⟨l.toArray⟩,.int .i64 0])) ?_,H.ext⟩;unfold textT
  first | exact List.append_assoc _ _ _ | simp
end Go.Proofs.YtonnladboikmhaaGreatDoor
