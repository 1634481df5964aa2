/- append(b, s...): a text's bytes behind a row of bytes. -/
import Derived.Test.YtonnladboikmhaaGreatDoorSx7
import Derived.Lib.AppendStr
set_option linter.unusedSimpArgs false
set_option linter.unusedVariables false
namespace Go.Sx
section
variable {nz:Sz} {P:Program} {n:Nat} {l:List (Nat × Value)} {a:Act} {o:Oper} {x y:Operand} {t u e:TypeId} {w:World}
theorem strCells_eq (s:List UInt8):Lib.strCells ⟨s.toArray⟩ = bcells s:=by unfold Lib.strCells bcells;simp
theorem str_size (s:List UInt8):(⟨s.toArray⟩:ByteArray).size = s.length:=by simp [ByteArray.size]
theorem run_appendS {ty:TypeId} {ad:Option Addr} {m c:Nat} {xs:List Value} {s:List UInt8} (hu:P.underlying t = some (.slice e)) (hu2:P.underlying u = some .string) (hti:TI P e (.int .u8 0) 1 1)
    (hrow:Row w e 1 ad m c xs) (h63:m + s.length≤140737488355328) :
    ∃ ad' c' w',(Builtin.append_ #[t,u] ty #[.slice ad m c,.string ⟨s.toArray⟩]).run P w = .ok (.slice ad' (m + s.length) c') w'∧Row w' e 1 ad' (m + s.length) c' (xs++bcells s)∧Ext (Own ad) w w' ∧
      (∀ k,Own ad' k→Own ad k∨w.heap.size≤k):=by
  obtain ⟨i,hi,hiz,his,hib⟩:=hti.ti
  have hz:=str_size s
  have hsc:=strCells_eq s
  obtain ⟨v',w',hr,hown,hg,hnil⟩:=Lib.run_append_own_string (P:=P) w 0 t u ty e i hu hu2 hi hiz his hib (.slice ad m c) m xs hrow.owns ⟨s.toArray⟩ (by rw [hz];unfold maxLen;omega) (by rw [hz];exact h63) (Nat.zero_le _)
  rw [hz] at hown hnil
  rw [hsc] at hown
  obtain ⟨ad',c',rfl,hrow'⟩:=Row.of_owns hown
  have hwhere:Own ad' = No∨(∃ p,ad' = some ⟨p,0,Option.none⟩∧w.heap.size≤p)∨ad' = ad:=by
    rcases hrow.own with ⟨rfl,rfl,rfl⟩ | ⟨junk,ha,hB,hl,hmc,hcm⟩
    · by_cases hm:s.length = 0
      · have h2:=hnil.2 ⟨rfl,hm⟩
        simp only [Value.slice.injEq] at h2
        exact .inr (.inr h2.1)
      have h2:=hr.symm.trans (run_append_nil_string (P:=P) w t u ty e i _ hu hu2 hi hiz ⟨s.toArray⟩ (by rw [hz];omega) (by rw [hz];omega) (by rw [hz,hib];omega))
      simp only [Result.ok.injEq,Value.slice.injEq] at h2
      exact .inr (.inl ⟨_,h2.1.1,Nat.le_refl _⟩)
    by_cases hroom:m + s.length≤c
    · have h3:=Lib.run_append_room_string (P:=P) w t u ty e i hu hu2 hi his (ab ad) m c (xs++junk).toArray hB ⟨s.toArray⟩ (by rw [hz];exact hroom) (by rw [hz,List.size_toArray,hl];omega)
      rw [← ha] at h3
      have h2:=hr.symm.trans h3
      simp only [Result.ok.injEq,Value.slice.injEq] at h2
      exact .inr (.inr h2.1.1)
    have hcs:∀ j u,xs[j]? = some u→w.cell? ((⟨ab ad,0,none⟩:Addr).add j) = some u:=fun j u hj=>by
      rw [add_addr,Nat.zero_add]
      exact hB.cell (by rw [List.getElem?_append_left (List.getElem?_eq_some_iff.1 hj).1];exact hj)
    have h3:=Lib.run_append_grow_string (P:=P) w t u ty e i _ hu hu2 hi hiz ⟨ab ad,0,none⟩ m c xs (by rw [his];exact hrow.len) hcs ⟨s.toArray⟩ (by rw [hz];omega) (by rw [hz];omega) (growslice_fits (by rw [hz];omega) (by rw [hib,hz];omega))
    rw [← ha] at h3
    have h2:=hr.symm.trans h3
    simp only [Result.ok.injEq,Value.slice.injEq] at h2
    exact .inr (.inl ⟨_,h2.1.1,Nat.le_refl _⟩)
  refine ⟨ad',c',w',?_,hrow',(Ext.of_grown hg (run_drawn _ _ _ _ _ hr)).mono fun k _ hk=>?_,fun k hk=>?_⟩
  · exact hr
  · cases ad with
    | none=>simp [Value.ownBlock] at hk
    | some q=>simp [Value.ownBlock] at hk;simp [Own,hk]
  · rcases hwhere with h | ⟨q,h,hq⟩ | h
    · rw [h] at hk;exact hk.elim
    · rw [h] at hk;simp [Own] at hk;exact .inr (by omega)
    rw [h] at hk;exact .inl hk
theorem x_appendS {ts:Array TypeId} {ad:Option Addr} {m c:Nat} {xs:List Value} {s:List UInt8} (hT:Sl nz l a) (hop:o.op = .call { callee:=.builtin .append,args:=#[x,y],argTypes:=ts }) (hts:ts = #[t,u])
    (hu:P.underlying t = some (.slice e)) (hu2:P.underlying u = some .string) (hti:TI P e (.int .u8 0) 1 1) (hx:opnd l x = some (.slice ad m c)) (hy:opnd l y = some (.string ⟨s.toArray⟩))
    (hrow:Row w e 1 ad m c xs) (h63:m + s.length≤140737488355328) :
    ∃ r w',(execOp a.eval o).run P w = .ok (.value r) w'∧∃ ad' c',r = .slice ad' (m + s.length) c'∧Row w' e 1 ad' (m + s.length) c' (xs++bcells s)∧Ext (Own ad) w w'∧(∀ k,Own ad' k→Own ad k∨w.heap.size≤k):=by
  subst hts
  obtain ⟨ad',c',w',hr,hR⟩:=run_appendS (P:=P) (w:=w) (ty:=o.type) hu hu2 hti hrow h63
  exact ⟨_,w',by simp [execOp,hop,resolve,invoke,builtin,hT.eval hx,hT.eval hy,hr],ad',c',rfl,hR⟩
end
end Go.Sx
