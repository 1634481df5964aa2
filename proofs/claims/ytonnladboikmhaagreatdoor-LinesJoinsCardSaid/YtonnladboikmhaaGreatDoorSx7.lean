/- Arrays that are told as a whole. -/
import Derived.Test.YtonnladboikmhaaGreatDoorSx6
set_option linter.unusedSimpArgs false
set_option linter.unusedVariables false
namespace Go.Sx
section
variable {nz:Sz} {P:Program} {n:Nat} {l:List (Nat × Value)} {a:Act} {o:Oper} {x y:Operand} {t:TypeId} {w:World}
theorem y_loadA {b m sz by_:Nat} {e t':TypeId} {vs:List Value} {z:Value} (hT:Sl nz l a) (hop:o.op = .load t x) (hu:P.underlying t = some (.array m e)) (hti:TI P t z sz by_)
    (hx:opnd l x = some (.pointer (some ⟨b,0,none⟩))) (h:Blk w b vs t') (hl:vs.length = sz):(execOp a.eval o).run P w = .ok (.value (.agg vs.toArray)) w:=by
  subst hl
  exact x_load hT hop hx (run_loadVarA hu hti (h.cs_of fun j v hj=>by rw [Nat.zero_add];exact hj))
theorem run_resA {b m sz by_:Nat} {e t':TypeId} {vs:List Value} {z:Value} (hu:P.underlying t = some (.array m e)) (hti:TI P t z sz by_) (h:Blk w b vs t') (hl:vs.length = sz):(loadVar t ⟨b,0,none⟩).run P w = .ok (.agg vs.toArray) w:=by
  subst hl
  exact run_loadVarA hu hti (h.cs_of fun j v hj=>by rw [Nat.zero_add];exact hj)
theorem y_storeA {b sz by_:Nat} {t':TypeId} {cur vs:List Value} {z:Value} (hT:Sl nz l a) (hop:o.op = .store t x y) (hti:TI P t z sz by_) (hx:opnd l x = some (.pointer (some ⟨b,0,none⟩))) (hy:opnd l y = some (.agg vs.toArray))
    (h:Blk w b cur t') (hc:cur.length = sz) (hl:vs.length = sz) (h1:∀ v ∈ vs,v.oneCell' = true) :
    ∃ w',(execOp a.eval o).run P w = .ok .skip w'∧Blk w' b vs t'∧Ext (One b) w w'∧w'.heap.size = w.heap.size:=by
  subst hl
  obtain ⟨w',hr,hb,hR⟩:=x_store hT hop hti hx hy rfl h (by omega) h1
  refine ⟨w',hr,?_,hR⟩
  rw [List.take_zero,List.nil_append,List.drop_eq_nil_of_le (by omega),List.append_nil] at hb
  exact hb
theorem wrap_u32 {z:Int} (h:0≤z∧z < 4294967296):IntKind.u32.wrap z = z:=by
  have e:z = ((z.toNat:Nat):Int):=by omega
  rw [e]
  exact wrap_un rfl (show z.toNat < 4294967296 by omega)
theorem x_sliceArr_l {b m p by_:Nat} {ip:Int} {e:TypeId} {lo:Operand} {z:Value} (hT:Sl nz l a) (hop:o.op = .slice t x (some lo) none none) (hu:P.underlying t = some (.array m e)) (hti:TI P e z 1 by_)
    (hx:opnd l x = some (.pointer (some ⟨b,0,none⟩))) (hlo:opnd l lo = some (.int .i64 ip)) (hp:ip = (p:Int)) (h1:p < m) (w:World):(execOp a.eval o).run P w = .ok (.value (.slice (some ⟨b,p,none⟩) (m - p) (m - p))) w:=
  x_slice hT hop hx (by
    simp only [Option.map_some,Option.map_none,hT.eval hlo]
    subst hp
    have hl:P.arrayLen t = m:=by simp [Program.arrayLen,hu]
    have he:P.elem t = e:=by simp [Program.elem,hu]
    rw [Go.run_sliceAt_array_l w t ⟨b,0,none⟩ (by rw [hl,he];exact hu) .i64 (p:Int) (by omega) (by rw [hl];omega),he,run_sizeOf hti,hl]
    simp only [Result.andThen,Go.slicedAt,Int.toNat_natCast,Nat.mul_one]
    rw [if_neg (by omega)]
    simp [Addr.add]
    omega)
theorem Blk.bsAt {b p:Nat} {e:TypeId} {xs:List Value} {d:List UInt8} (h:Blk w b (xs++bcells d) e) (hp:xs.length = p):Bs w (some ⟨b,p,none⟩) d:=
  ⟨by unfold bcells;simp,fun _=>rfl,Blk.run (ys:=[]) (by rw [List.append_nil];exact h) hp⟩
end
end Go.Sx
