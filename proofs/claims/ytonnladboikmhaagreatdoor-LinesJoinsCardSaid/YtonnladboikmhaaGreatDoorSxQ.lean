/- Rows of things: an element written over, told as a list. -/
import Derived.Test.YtonnladboikmhaaGreatDoorSxN
set_option linter.unusedSimpArgs false
set_option linter.unusedVariables false
namespace Go.Sx
section
variable {α:Type} {enc:α→List Value} {sz:Nat}
end
section
variable {nz:Sz} {P:Program} {w:World} {t e:TypeId} {n:Nat} {l:List (Nat × Value)} {a:Act} {o:Oper} {x y:Operand} {v:Value} {α:Type} {enc:α→List Value} {sz:Nat}
end
section
variable {nz:Sz} {P:Program} {t e:TypeId} {n:Nat} {l:List (Nat × Value)} {a:Act} {o:Oper} {x:Operand}
end
section
variable {nz:Sz} {P:Program} {ops:Array Oper} {Q:Exit→Act→World→Prop} {H:World→Prop} {s:List (Nat × How)} {i n:Nat} {l:List (Nat × Value)} {a:Act} {w:World} {o:Oper}
theorem st_actkeep {R:World→Prop} (hT:Sl nz l a) (ho:ops[i]? = some o) (hd:o.dst = none) (hw:wantedIn ops l o.guard = some true)
    (hv:∃ w',(execOp a.eval o).run P w = .ok .skip w'∧R w')
    (k:∀ w',R w'→H w'∧Ser P ops Q H s a w'):Ser P ops Q H ((i,.keep) :: s) a w:=by
  obtain ⟨w',hr,hR⟩:=hv
  exact st_dokeep hT ho hd hw hr (k w' hR).1 (k w' hR).2
end
structure Wr (w:World) (e:TypeId) (sz:Nat) (ad:Option Addr) (n:Nat) (xs:List Value):Prop where
  len:xs.length = n * sz
  own:n = 0∨∃ junk,ad = some ⟨ab ad,0,none⟩∧Blk w (ab ad) (xs++junk) e
def cW (e:TypeId) (sz:Nat) (ad:Option Addr) (n:Nat) (xs:List Value):Chunk:=(Own ad,fun w=>Wr w e sz ad n xs)
section
variable {nz:Sz} {P:Program} {w w0:World} {S:Nat→Prop} {t e:TypeId} {n:Nat} {l:List (Nat × Value)} {hl l':List Chunk} {a:Act} {o:Oper} {x y:Operand} {v:Value} {α:Type} {enc:α→List Value} {sz c m:Nat} {ad:Option Addr} {xs:List Value}
theorem Row.ssn {xs:List α} (h:Row w e sz ad n c (xs.flatMap enc)) (hn:n = xs.length):Ss w ad enc sz xs:=by
  subst hn;exact h.sv
theorem Row.wr (h:Row w e sz ad n c xs) {k:Nat} (hk:k≤n):Wr w e sz ad k (xs.take (k * sz)):=by
  have hl:=h.len
  refine ⟨by rw [List.length_take,hl,Nat.min_eq_left (Nat.mul_le_mul_right _ hk)],?_⟩
  rcases h.own with ⟨-,h0,-⟩ | ⟨junk,ha,hB,-,-,-⟩
  · exact .inl (by omega)
  refine .inr ⟨xs.drop (k * sz)++junk,ha,?_⟩
  rw [← List.append_assoc,List.take_append_drop]
  exact hB
theorem Wr.sv (h:Wr w e sz ad n xs):Sv w ad n sz xs:=by
  refine ⟨h.len,fun h0=>?_,?_⟩
  · rcases h.own with h1 | ⟨junk,ha,hB⟩
    · omega
    rw [ha];rfl
  rcases h.own with h1 | ⟨junk,ha,hB⟩
  · have h2:=h.len
    rw [h1,Nat.zero_mul] at h2
    rw [List.eq_nil_of_length_eq_zero h2]
    exact Cs.nil _ _ _
  have:ao ad = 0:=by rw [ha];rfl
  rw [this]
  exact hB.run (xs:=[]) rfl
theorem Wr.ssn {xs:List α} (h:Wr w e sz ad n (xs.flatMap enc)) (hn:n = xs.length):Ss w ad enc sz xs:=by
  subst hn;exact h.sv
theorem Wr.ext {w':World} (h:Wr w e sz ad n xs) (x:Ext S w w') (hb:∀ k,Own ad k→¬ S k):Wr w' e sz ad n xs:=by
  refine ⟨h.len,?_⟩
  rcases h.own with h1 | ⟨junk,ha,hB⟩
  · exact .inl h1
  exact .inr ⟨junk,ha,hB.ext x (hb _ (by rw [ha];rfl))⟩
theorem Hp.rowN {b:Nat} {cs:List Value} (H:Hp w0 S w hl) (sz n:Nat) (i:Nat) (h:cget hl i = some (cB b cs e)) (hn:cs.length = n * sz) (hm:n≤maxLen) (hs:cset hl i (cR e sz (some ⟨b,0,none⟩) n n cs) = some l'):Hp w0 S w l':=
  H.eff (d:=cR e sz (some ⟨b,0,none⟩) n n cs) i h (Ext.refl _ _) (Row.ck (Blk.rowN sz (H.blk i h) hn hm)) (fun k hk=>by
    have hk':k = b:=by rw [show (cR e sz (some ⟨b,0,none⟩) n n cs).1 = One b from Own.one] at hk;exact hk
    exact ⟨(H.own _ (mem_of_cget h) k hk').1,.inl hk'⟩) hs
theorem Hp.wr (H:Hp w0 S w hl) (i:Nat) (h:cget hl i = some (cW e sz ad n xs)):Wr w e sz ad n xs:=(H.ck _ (mem_of_cget h)).now
end
end Go.Sx
