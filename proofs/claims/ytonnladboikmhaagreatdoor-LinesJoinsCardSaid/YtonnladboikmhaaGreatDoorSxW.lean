/- Slices that a contract of the kit's has built. -/
import Derived.Test.YtonnladboikmhaaGreatDoorSxS
import Derived.Test.YtonnladboikmhaaGreatDoorSxV
set_option linter.unusedSimpArgs false
set_option linter.unusedVariables false
namespace Go.Sx
section
variable {w w':World} {base n sz:Nat} {e:TypeId} {v:Value} {xs:List Value}
theorem Row.of_ownsB (h:w.ownsRow base e sz v n xs):∃ ad c,v = .slice ad n c∧Row w e sz ad n c xs∧∀ k,Own ad k→base≤k:=by
  obtain ⟨hl,⟨rfl,rfl⟩ | ⟨g,cap,cur,rfl,hg,hb,hn,hc,hs,ht⟩⟩:=h
  · exact ⟨none,0,rfl,⟨hl,.inl ⟨rfl,rfl,rfl⟩⟩,fun k hk=>by simp [Own] at hk⟩
  have e1:xs++cur.toList.drop (n * sz) = cur.toList:=by rw [← ht,List.take_append_drop]
  refine ⟨some ⟨g,0,none⟩,cap,rfl,⟨hl,.inr ⟨cur.toList.drop (n * sz),rfl,?_,?_,hn,hc⟩⟩,fun k hk=>?_⟩
  · show w.heap[g]? = _
    rw [e1,hb]
  · rw [e1,Array.length_toList,hs]
  have:g = k:=by simpa [Own] using hk
  omega
/-[loose
theorem Hp.owned (hb:Go.RowKit.Below w.heap.size w w') (h:w'.ownsRow w.heap.size e sz v n xs):∃ ad c,v = .slice ad n c∧Hp w No w' [cR e sz ad n c xs]:=by
  obtain ⟨ad,c,rfl,hr,hk⟩:=Row.of_ownsB h
  refine ⟨ad,c,rfl,(Hp.start No w).cons (Ext.of_below hb) hr.ck fun k h1=>⟨hk k h1,?_⟩⟩
  rcases hr.own with ⟨h2,-,-⟩ | ⟨junk,ha,hB,-⟩
  · rw [h2] at h1;simp [Own] at h1
  have e9:Own ad = One (ab ad):=by rw [ha];exact Own.one
  have h3:Own ad k:=h1
  rw [e9] at h3
  have:k = ab ad:=h3
  rw [this];exact hB.lt
loose]-/
end
/-! 64 bits: xor, products -/
section
variable {nz:Sz} {P:Program} {w:World} {t t' e:TypeId} {n:Nat} {l:List (Nat × Value)} {a:Act} {o:Oper} {x y:Operand}
end
end Go.Sx
