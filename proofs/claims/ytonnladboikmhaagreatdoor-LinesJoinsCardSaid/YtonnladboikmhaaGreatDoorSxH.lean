/- Laws for what package slices does with a row: caps, three bounds, copy, clear, append of zeros, overlaps. -/
import Derived.Test.YtonnladboikmhaaGreatDoorSxG
import Derived.Lib.AppendZerosOnto
import Derived.Lib.Overlaps
set_option linter.unusedSimpArgs false
set_option linter.unusedVariables false
namespace Go.Sx
section
variable {w w':World} {e:TypeId} {sz n c k q:Nat} {ad:Option Addr} {xs:List Value}
theorem Row.upto (h:Row w e sz ad n c xs) (h1:n≤q) (h2:q≤c):∃ ys,Row w e sz ad q c (xs++ys):=by
  rcases h.own with ⟨rfl,rfl,rfl⟩ | ⟨junk,ha,hB,hl,h3,h4⟩
  · obtain rfl:q = 0:=by omega
    exact ⟨[],by simpa using h⟩
  have hle:n * sz≤q * sz:=Nat.mul_le_mul_right _ h1
  have hle2:q * sz≤c * sz:=Nat.mul_le_mul_right _ h2
  have hxl:=h.len
  rw [List.length_append,hxl] at hl
  refine ⟨junk.take (q * sz - n * sz),?_,.inr ⟨junk.drop (q * sz - n * sz),ha,?_,?_,h2,h4⟩⟩
  · rw [List.length_append,List.length_take,hxl];omega
  · rw [List.append_assoc,List.take_append_drop];exact hB
  rw [List.append_assoc,List.take_append_drop,List.length_append,hxl];omega
theorem Row.nilcut {lo:Nat} (h:Row w e sz ad n c xs) (hc:cutAt ad sz lo c = none):n - lo = 0∧c - lo = 0:=by
  rcases h.own with ⟨rfl,rfl,rfl⟩ | ⟨junk,ha,-⟩
  · omega
  unfold cutAt at hc
  split at hc
  · rw [ha] at hc;cases hc
  rw [ha] at hc;cases hc
theorem Blk.sv1 {b:Nat} {vs:List Value} (h:Blk w b vs e) (hl:vs.length = sz):Sv w (some ⟨b,0,none⟩) 1 sz vs:=
  ⟨by rw [hl,Nat.one_mul],fun _=>rfl,h.cs_of fun j v hj=>by simpa [ao] using hj⟩
theorem Row.at_ (h:Row w e sz ad n c xs) (hc:0 < c):∃ junk,ad = some ⟨ab ad,0,none⟩∧Blk w (ab ad) (xs++junk) e∧(xs++junk).length = c * sz:=by
  rcases h.own with ⟨rfl,rfl,rfl⟩ | ⟨junk,ha,hB,hl,h3,h4⟩
  · omega
  exact ⟨junk,ha,hB,hl⟩
end
section
variable {nz:Sz} {P:Program} {n:Nat} {l:List (Nat × Value)} {a:Act} {w:World} {o:Oper} {t e:TypeId} {x y:Operand} {v:Value}
end
/-! ### lists: one element laid in -/
end Go.Sx
