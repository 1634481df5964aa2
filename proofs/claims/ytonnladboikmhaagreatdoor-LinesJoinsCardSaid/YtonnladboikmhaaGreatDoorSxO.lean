/- From the form's reading of an argument to what the walks want to know of it; and from a walk that changes nothing old to the statement. -/
import Derived.Test.YtonnladboikmhaaGreatDoorSxI
import Derived.ProofKit
import Derived.OpenShut
import Derived.JoinedCond
namespace Go.Sx
open Go.ChangeShapes Go.WideShapes Go.ChangeAt Go.RowKit
section
variable {H:Type} {enc:TypeId × Value→H} {P:Program} {w:World} {base:Nat} {spare:Nat→Bool} {held:Bool}
theorem carry_all (hl:laidOutB P = true) {W W':World} (hb:Below W.heap.size W W'):∀ {ts:List TypeId} {vs:List Value} {ds:List (DataW H)} {ps:List MemPlace},(∀ t ∈ ts,P.readableRec t = true∧t < P.types.size) →
    DataW.TrodAll enc P W 0 (fun _=>true) true ts vs ds ps→(∀ x ∈ ps,x.block < W.heap.size)→DataW.TrodAll enc P W' 0 (fun b=>decide (b < W.heap.size)) true ts vs ds ps
  | [],[],[],_,_,h,_=>h
  | t :: _,_ :: _,_ :: _,_,ht,⟨p,q,h1,h2,e⟩,hs=>
    ⟨p,q,Below.trod hl (ht t (by simp)).1 (ht t (by simp)).2 h1 hb (fun x hx=>hs x (by rw [e];exact List.mem_append_left _ hx)),
      carry_all hl hb (fun u hu=>ht u (by simp [hu])) h2 (fun x hx=>hs x (by rw [e];exact List.mem_append_right _ hx)),e⟩
  | [],_ :: _,_,_,_,h,_=>h.elim
  | [],[],_ :: _,_,_,h,_=>h.elim
  | _ :: _,[],_,_,_,h,_=>h.elim
  | _ :: _,_ :: _,[],_,_,h,_=>h.elim
theorem trod_length {w:World} {base:Nat} {spare:Nat→Bool} {held:Bool}:∀ {ts:List TypeId} {vs:List Value} {ds:List (DataW H)} {ps:List MemPlace},DataW.TrodAll enc P w base spare held ts vs ds ps→ds.length = ts.length
  | [],[],[],_,_=>rfl
  | _ :: _,_ :: _,_ :: _,_,⟨_,_,_,h2,_⟩=>by simp [trod_length h2]
  | [],_ :: _,_,_,h=>h.elim
  | [],[],_ :: _,_,h=>h.elim
  | _ :: _,[],_,_,h=>h.elim
  | _ :: _,_ :: _,[],_,h=>h.elim
theorem post_true {f:Func} {s:ChangeSpec} {t:TypeId} {W W':World} {args:Array Value} {ds gs:List (DataW H)} {before:List MemPlace} (hl:laidOutB P = true) (hps:(f.params.toList.all fun t=>P.readableRec t && decide (t < P.types.size)) = true)
    (hr:f.resultTypes = #[t]) (ht:P.underlying t = some .bool) (hv:s.vars = []) (hfn:∀ ds:List (DataW H),ds.length = f.params.toList.length→s.fn H ds = { results:=[.lit (.bool true)],args:=ds })
    (hW:DataW.Whole enc P f.params.toList s.vars false W args.toList ds gs before) (hx:Ext No W W'):s.post enc P f false true false false W args (.bool true) W':=by
  have hW':=hW
  obtain ⟨p,q,hA,hV,rfl,-,-⟩:=hW
  rw [hv] at hV
  obtain ⟨rfl,rfl⟩:=trodVars_none hV
  have hf:=hfn (ds++[]) (by rw [List.append_nil];exact trod_length hA)
  have hp:∀ u ∈ f.params.toList,P.readableRec u = true∧u < P.types.size:=fun u hu=>by simpa using List.all_eq_true.1 hps u hu
  refine ⟨ds,[],p++[],[],p++[],[],hW',?_,?_,?_,hx.below.frame _,fun h=>by cases h⟩
  · rw [hf,hr]
    exact trodAll_cons_mk (p:=[]) (p':=[]) (shut_bool ht true) trodAll_mk0
  · rw [hf]
    simp only [List.append_nil]
    exact carry_all hl hx.below hp hA (fun x hx=>hW'.lt x (by simpa using hx))
  rw [hf,hv]
  rfl
end
end Go.Sx
