/- Maps of one's own: the kit's word ownsMap, at elements that read as themselves. -/
import Derived.Test.YtonnladboikmhaaGreatDoorSxQ
import Derived.Maps.OwnSet
import Derived.Maps.Ext
import Derived.Lib.SlKeysI
set_option linter.unusedSimpArgs false
set_option linter.unusedVariables false
namespace Go.Sx
open Go.Maps (Keyed)
open Go.ChangeMaps (setBlock heap_setBlock_same heap_setBlock_other)
def hR (v:Value):Option (DataW Value × List MemPlace):=some (.held v,[])
def Mp (P:Program) (k:TypeId) (w:World) (b:Nat) (D:DataW Value):Prop:=w.ownsMap P k hR b (Maps.size D) D
@[reducible] def cM (P:Program) (k:TypeId) (b:Nat) (D:DataW Value):Chunk:=(One b,fun w=>Mp P k w b D)
section
variable {nz:Sz} {P:Program} {k t e:TypeId} {w w' w0:World} {b:Nat} {D:DataW Value} {S:Nat→Prop} {n:Nat} {l:List (Nat × Value)} {a:Act} {o:Oper} {x y z:Operand} {v key:Value} {kl:Lit} {hl l':List Chunk}
theorem Mp.lt (h:Mp P k w b D):b < w.heap.size:=World.ownsMap.lt h
theorem Mp.ext (h:Mp P k w b D) (x:Ext S w w') (hb:¬ S b):Mp P k w' b D:=by
  have hlt:=h.lt
  obtain ⟨es,clock,hB,F,hs,hD⟩:=h
  exact ⟨es,clock,(x.block b hlt hb).trans hB,F,hs,hD⟩
theorem Mp.ck (h:Mp P k w b D):Ck (One b) (fun w=>Mp P k w b D) w:=fun w' x=>h.ext x fun hn=>hn rfl
theorem Mp.of {m:Nat} (h:w.ownsMap P k hR b m D):Mp P k w b D:=by
  obtain ⟨es,clock,hB,F,hs,rfl⟩:=h
  refine ⟨es,clock,hB,F,?_,rfl⟩
  have e1:es.size = ((es.toList.map (WideElems.rg P k hR)).foldr DataW.insert []).length:=by rw [length_sorted];simp
  exact Nat.le_of_eq e1
structure NewM (P:Program) (k:TypeId) (w:World) (b:Nat) (w':World):Prop where
  at_:b = w.heap.size
  ext:Ext No w w'
  mp:Mp P k w' b (.map [])
  size:w'.heap.size = b + 1
theorem Hp.mp (H:Hp w0 S w hl) (i:Nat) (h:cget hl i = some (cM P k b D)):Mp P k w b D:=(H.ck _ (mem_of_cget h)).now
end
/-! a call whose value nobody takes -/
section
variable {nz:Sz} {P:Program} {ops:Array Oper} {Q:Exit→Act→World→Prop} {H:World→Prop} {s:List (Nat × How)} {i n:Nat} {l:List (Nat × Value)} {a:Act} {w:World} {o:Oper}
end
/-! a map told as a list, in its keys' order -/
section
variable {α:Type} (kl:α→Lit) (en:α→Value)
def tab (L:List α):DataW Value:=.map (L.map fun x=>(kl x,.held (en x)))
def getT (L:List α) (k:Lit):Option α:=L.find? fun x=>(kl x).sameKey k
variable {kl en}
end
end Go.Sx
