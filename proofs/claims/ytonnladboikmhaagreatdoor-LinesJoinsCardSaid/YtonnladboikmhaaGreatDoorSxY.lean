/- Reading arguments with what they weigh: no string, slice or map takes more than the platform's bytes. -/
import Derived.Test.YtonnladboikmhaaGreatDoorSxP
import Derived.SizedLaws
set_option linter.unusedSimpArgs false
set_option linter.unusedVariables false
namespace Go.Sx
open Go.ChangeShapes Go.WideShapes Go.ChangeAt Go.RowKit
section
variable {H:Type} {enc:TypeId × Value→H} {P:Program} {w:World} {base:Nat} {spare:Nat→Bool} {held:Bool}
theorem reach_eq:reachBytes = 140737488351232:=rfl
def Rz (enc:TypeId × Value→H) (P:Program) (w:World) (base:Nat) (spare:Nat→Bool) (held:Bool) (t:TypeId) (cs:List Value):Prop:=
  ∃ n y,DataW.trod enc P w base spare held n t cs = some y∧∀ m ∈ y.1.weights P t,m≤reachBytes
theorem rz_str {t:TypeId} {cs:List Value} (ht:P.underlying t = some .string) (h:Rz enc P w base spare held t cs):∃ l:List UInt8,cs = [.string ⟨l.toArray⟩]∧l.length≤140737488351232:=by
  obtain ⟨n,y,h,hz⟩:=h
  obtain ⟨s,rfl,rfl,-⟩:=DataW.trod_string ht h
  refine ⟨s.data.toList,rfl,?_⟩
  have:=hz s.data.toList.length (by simp [DataW.weights])
  rw [reach_eq] at this
  exact this
/-! arguments -/
def ArgZ (enc:TypeId × Value→H) (P:Program) (W:World) (t:TypeId) (v:Value):Prop:=∃ b,Value.okWide P W .any b t v∧Rz enc P W 0 (fun _=>true) true t v.cells.toList
def ArgsZ (enc:TypeId × Value→H) (P:Program) (W:World):List TypeId→List Value→Prop
  | [],[]=>True
  | t :: ts,v :: vs=>ArgZ enc P W t v∧ArgsZ enc P W ts vs
  | _,_=>False
theorem argsZ_of {W:World} {b:Nat}:∀ {ts:List TypeId} {vs:List Value} {ds:List (DataW H)} {ps:List MemPlace},(∀ (j:Nat) t v,ts[j]? = some t→vs[j]? = some v→Value.okWide P W .any b t v) →
    (∀ (j:Nat) t d,ts[j]? = some t→ds[j]? = some d→∀ n ∈ d.weights P t,n≤reachBytes)→DataW.TrodAll enc P W 0 (fun _=>true) true ts vs ds ps→ArgsZ enc P W ts vs
  | [],[],[],_,_,_,_=>trivial
  | _ :: _,_ :: _,_ :: _,_,hv,hz,⟨_,_,h1,h2,_⟩=>by
    obtain ⟨n,h1⟩:=h1
    exact ⟨⟨b,hv 0 _ _ rfl rfl,n,_,h1,hz 0 _ _ rfl rfl⟩,argsZ_of (fun j t v ht hw=>hv (j + 1) t v (by simpa using ht) (by simpa using hw)) (fun j t d ht hd=>hz (j + 1) t d (by simpa using ht) (by simpa using hd)) h2⟩
  | [],_ :: _,_,_,_,_,h=>h.elim
  | [],[],_ :: _,_,_,_,h=>h.elim
  | _ :: _,[],_,_,_,_,h=>h.elim
  | _ :: _,_ :: _,[],_,_,_,h=>h.elim
theorem argsZ_cons {W:World} {t:TypeId} {ts:List TypeId} {vs:List Value} (h:ArgsZ enc P W (t :: ts) vs):∃ v vs',vs = v :: vs'∧ArgZ enc P W t v∧ArgsZ enc P W ts vs':=by
  cases vs with
  | nil=>exact h.elim
  | cons v vs=>exact ⟨v,vs,rfl,h.1,h.2⟩
theorem argsZ_nil {W:World} {vs:List Value} (h:ArgsZ enc P W [] vs):vs = []:=by
  cases vs with
  | nil=>rfl
  | cons v vs=>exact h.elim
theorem argZ_str {W:World} {t:TypeId} {v:Value} (ht:P.underlying t = some .string) (h:ArgZ enc P W t v):∃ l:List UInt8,v = .string ⟨l.toArray⟩∧l.length≤140737488351232:=by
  obtain ⟨b,h1,h2⟩:=h
  obtain ⟨s,rfl⟩:=(okWide_string ht h1:∃ s,v = .string s)
  obtain ⟨l,e,h3⟩:=rz_str ht h2
  simp [Value.cells] at e
  exact ⟨l,by rw [e],h3⟩
end
end Go.Sx
