/- Slices of structs: a list of things, each laid down as sz cells. -/
import Derived.Test.YtonnladboikmhaaGreatDoorSxH
namespace Go.Sx
section
variable {α:Type} {enc:α→List Value} {sz:Nat}
theorem flat_len (he:∀ x,(enc x).length = sz):∀ xs:List α,(xs.flatMap enc).length = xs.length * sz
  | []=>by simp
  | x :: xs=>by simp only [List.flatMap_cons,List.length_append,he,flat_len he xs,List.length_cons,Nat.add_mul];omega
theorem flat_drop (he:∀ x,(enc x).length = sz):∀ (xs:List α) (k:Nat),(xs.flatMap enc).drop (k * sz) = (xs.drop k).flatMap enc
  | [],k=>by simp
  | x :: xs,0=>by simp
  | x :: xs,k + 1=>by
    simp only [List.flatMap_cons,List.drop_succ_cons]
    rw [List.drop_append,List.drop_eq_nil_of_le (by rw [he,Nat.add_mul];omega),he,show (k + 1) * sz - sz = k * sz from by rw [Nat.add_mul];omega,flat_drop he xs k,List.nil_append]
theorem flat_get (he:∀ x,(enc x).length = sz) {xs:List α} {i j:Nat} {x:α} (hi:xs[i]? = some x) (hj:j < sz):(xs.flatMap enc)[i * sz + j]? = (enc x)[j]?:=by
  have hd:=flat_drop he xs i
  obtain ⟨hlt,hx⟩:=List.getElem?_eq_some_iff.1 hi
  rw [← List.getElem?_drop,hd,List.drop_eq_getElem_cons hlt,hx,List.flatMap_cons,List.getElem?_append_left (by rw [he];exact hj)]
theorem flat_one (h1:∀ x,∀ u ∈ enc x,u.oneCell' = true) (xs:List α):∀ u ∈ xs.flatMap enc,u.oneCell' = true:=by
  intro u hu
  obtain ⟨x,-,h⟩:=List.mem_flatMap.1 hu
  exact h1 x u h
end
def Ss (w:World) (ad:Option Addr) {α:Type} (enc:α→List Value) (sz:Nat) (xs:List α):Prop:=Sv w ad xs.length sz (xs.flatMap enc)
section
variable {α:Type} {enc:α→List Value} {sz:Nat} {w w':World} {ad:Option Addr} {xs:List α}
theorem Ss.ext {S:Nat→Prop} (h:Ss w ad enc sz xs) (x:Ext S w w') (hb:0 < xs.length→¬ S (ab ad)):Ss w' ad enc sz xs:=Sv.ext h x hb
theorem Ss.ext_no (h:Ss w ad enc sz xs) (x:Ext No w w'):Ss w' ad enc sz xs:=Sv.ext_no h x
theorem Ss.cs (he:∀ x,(enc x).length = sz) (h:Ss w ad enc sz xs) {i:Nat} {x:α} (hi:xs[i]? = some x):Cs w (ab ad) (ao ad + i * sz) (enc x):=by
  intro j v hj
  have hlt:j < sz:=by rw [← he x];exact (List.getElem?_eq_some_iff.1 hj).1
  have:=Sv.cs h (i * sz + j) v (by rw [flat_get he hi hlt];exact hj)
  rwa [← Nat.add_assoc] at this
theorem Ss.sv (h:Ss w ad enc sz xs):Sv w ad xs.length sz (xs.flatMap enc):=h
theorem Ss.cell (he:∀ x,(enc x).length = sz) (h:Ss w ad enc sz xs) {i j:Nat} {x:α} {v:Value} (hi:xs[i]? = some x) (hj:nth (enc x) j = some v):w.cell? ⟨ab ad,ao ad + i * sz + j,none⟩ = some v:=(h.cs he hi).nth hj
theorem Ss.nil (w:World) (enc:α→List Value) (sz:Nat):Ss w none enc sz []:=Sv.nil w sz
end
theorem Sv.lt {w:World} {ad:Option Addr} {m sz:Nat} {vs:List Value} (h:Sv w ad m sz vs) (h0:0 < m) (hz:0 < sz):ab ad < w.heap.size:=by
  have hl:0 < vs.length:=by rw [h.len];exact Nat.mul_pos h0 hz
  exact World.block_lt_of_cell? w _ (h.cs 0 vs[0] (by rw [List.getElem?_eq_getElem hl]))
theorem Bs.lt {w:World} {ad:Option Addr} {l:List UInt8} (h:Bs w ad l) (h0:0 < l.length):ab ad < w.heap.size:=Sv.lt h h0 (by decide)
theorem Ss.lt {α:Type} {enc:α→List Value} {sz:Nat} {w:World} {ad:Option Addr} {xs:List α} (h:Ss w ad enc sz xs) (h0:0 < xs.length) (hz:0 < sz):ab ad < w.heap.size:=Sv.lt h h0 hz
theorem Bs.ext {w w':World} {S:Nat→Prop} {ad:Option Addr} {l:List UInt8} (h:Bs w ad l) (x:Ext S w w') (hb:0 < l.length→¬ S (ab ad)):Bs w' ad l:=Sv.ext h x hb
theorem Bs.ext_no {w w':World} {ad:Option Addr} {l:List UInt8} (h:Bs w ad l) (x:Ext No w w'):Bs w' ad l:=Sv.ext_no h x
theorem Bs.sv {w:World} {ad:Option Addr} {l:List UInt8} (h:Bs w ad l):Sv w ad l.length 1 (bcells l):=h
theorem Bs.cell {w:World} {ad:Option Addr} {l:List UInt8} (h:Bs w ad l) {i:Nat} {b:UInt8} (hi:l[i]? = some b):w.cell? ⟨ab ad,ao ad + i * 1,none⟩ = some (.int .u8 b.toNat):=by
  rw [Nat.mul_one]
  exact h.cs.at (by rw [bcells_get,hi];rfl)
theorem Row.ss {w:World} {e:TypeId} {sz c:Nat} {ad:Option Addr} {α:Type} {enc:α→List Value} {xs:List α} (h:Row w e sz ad xs.length c (xs.flatMap enc)):Ss w ad enc sz xs:=h.sv
theorem Row.bs {w:World} {e c:Nat} {ad:Option Addr} {l:List UInt8} (h:Row w e 1 ad l.length c (bcells l)):Bs w ad l:=h.sv
theorem Sl.conv {nz:Sz} {l l':List (Nat × Value)} {a:Act} (h:Sl nz l a) (e:l = l'):Sl nz l' a:=e ▸ h
theorem New.row {w w':World} {b:Nat} {e:TypeId} (sz:Nat) (h:New w b w' [] e):Row w' e sz (some ⟨b,0,none⟩) 0 0 []:=
  ⟨by simp,.inr ⟨[],rfl,h.blk,by simp,Nat.le_refl _,Nat.zero_le _⟩⟩
end Go.Sx
namespace Go.Sx
/-! ### two lists, one beside the other -/
def All2 {α β:Type} (R:α→β→Prop):List α→List β→Prop
  | [],[]=>True
  | a :: as,b :: bs=>R a b∧All2 R as bs
  | _,_=>False
section
variable {α β:Type} {R R':α→β→Prop}
theorem All2.length:∀ {as:List α} {bs:List β},All2 R as bs→as.length = bs.length
  | [],[],_=>rfl
  | a :: as,b :: bs,h=>by simp [All2.length h.2]
  | [],_ :: _,h=>h.elim
  | _ :: _,[],h=>h.elim
theorem All2.mono (hr:∀ a b,R a b→R' a b):∀ {as:List α} {bs:List β},All2 R as bs→All2 R' as bs
  | [],[],_=>trivial
  | _ :: _,_ :: _,h=>⟨hr _ _ h.1,All2.mono hr h.2⟩
  | [],_ :: _,h=>h.elim
  | _ :: _,[],h=>h.elim
theorem All2.append:∀ {as:List α} {bs:List β} {cs:List α} {ds:List β},All2 R as bs→All2 R cs ds→All2 R (as++cs) (bs++ds)
  | [],[],_,_,_,k=>k
  | _ :: _,_ :: _,_,_,h,k=>⟨h.1,All2.append h.2 k⟩
  | [],_ :: _,_,_,h,_=>h.elim
  | _ :: _,[],_,_,h,_=>h.elim
theorem All2.take:∀ {as:List α} {bs:List β} (k:Nat),All2 R as bs→All2 R (as.take k) (bs.take k)
  | [],[],k,_=>by simp [All2]
  | _ :: _,_ :: _,0,_=>by simp [All2]
  | _ :: _,_ :: _,k + 1,h=>by simpa [All2] using ⟨h.1,All2.take k h.2⟩
  | [],_ :: _,_,h=>h.elim
  | _ :: _,[],_,h=>h.elim
theorem All2.drop:∀ {as:List α} {bs:List β} (k:Nat),All2 R as bs→All2 R (as.drop k) (bs.drop k)
  | [],[],k,_=>by simp [All2]
  | _ :: _,_ :: _,0,h=>h
  | _ :: _,_ :: _,k + 1,h=>by simpa using All2.drop k h.2
  | [],_ :: _,_,h=>h.elim
  | _ :: _,[],_,h=>h.elim
theorem All2.get:∀ {as:List α} {bs:List β} {i:Nat} {b:β},All2 R as bs→bs[i]? = some b→∃ a,as[i]? = some a∧R a b
  | [],[],i,b,_,h=>by simp at h
  | a :: _,_ :: _,0,b,h,k=>⟨a,by simp,by simp at k;subst k;exact h.1⟩
  | _ :: _,_ :: _,i + 1,b,h,k=>by
    obtain ⟨a,h1,h2⟩:=All2.get h.2 (by simpa using k)
    exact ⟨a,by simpa using h1,h2⟩
  | [],_ :: _,_,_,h,_=>h.elim
  | _ :: _,[],_,_,h,_=>h.elim
end
end Go.Sx
