/- Floats: arithmetic up to which NaN it is, comparisons, whole numbers as floats. -/
import Derived.Test.YtonnladboikmhaaGreatDoorSxQ
import Derived.Laws.FloatArith
set_option linter.unusedSimpArgs false
set_option linter.unusedVariables false
namespace Go.Sx
def fnan:Nat:=9221120237041090560
def fnum (b:Nat):Bool:=Op.floatEq .f64 b b
def fcan (b:Nat):Nat:=if fnum b = true then b else fnan
def fop (op:BinOp) (b c:Nat):Nat:=(floatBits op .f64 b c).getD fnan
def fcmp (b c:Nat):Option Ordering:=Ieee.double.order b c
def flt (b c:Nat):Bool:=fcmp b c == some .lt
def fgt (b c:Nat):Bool:=fcmp b c == some .gt
def fofint (n:Int):Nat:=FloatKind.nearest .f64 n
theorem order_self (d:Ieee.Datum):(d.order d == some .eq) = !d.isNaN:=by
  cases d with
  | nan s t=>rfl
  | infinity s=>cases s <;> rfl
  | number s m i=>simp [Ieee.Datum.order,Ieee.Datum.isNaN]
theorem fnum_read (b:Nat):fnum b = !(Ieee.double.read b).isNaN:=order_self _
theorem word_mod (s:Bool) (r:Nat) (h:r < Ieee.double.signWeight):Ieee.double.word s r % Ieee.double.signWeight = r:=by
  unfold Ieee.Format.word
  split
  · rw [Nat.add_mod_left,Nat.mod_eq_of_lt h]
  exact Nat.mod_eq_of_lt h
theorem read_num {b:Nat} (h:b % Ieee.double.signWeight≤Ieee.double.infRung):(Ieee.double.read b).isNaN = false:=by
  unfold Ieee.Format.read
  dsimp only
  split
  · rfl
  split
  · rfl
  rw [if_pos (by omega)];rfl
theorem read_nan {b:Nat} (h:Ieee.double.infRung < b % Ieee.double.signWeight):(Ieee.double.read b).isNaN = true:=by
  have h1:Ieee.double.binade≤Ieee.double.infRung:=by decide
  unfold Ieee.Format.read
  dsimp only
  rw [if_neg (by omega),if_neg (by omega),if_neg (by omega)]
  rfl
theorem nearest_num (s:Bool) (m:Nat) (i:Int):fnum (Ieee.double.nearest s m i) = true:=by
  have hi:=Ieee.double.infRung_lt
  rw [fnum_read]
  unfold Ieee.Format.nearest
  dsimp only
  split
  · rw [read_num (by rw [word_mod _ _ (by omega)];omega)];rfl
  rw [read_num (by rw [word_mod _ _ (by omega)];omega)];rfl
theorem write_num {d:Ieee.Datum} (h:d.isNaN = false):fnum (Ieee.double.write d) = true:=by
  have hi:=Ieee.double.infRung_lt
  cases d with
  | nan s t=>cases h
  | infinity s=>
    rw [fnum_read]
    show (!(Ieee.double.read (Ieee.double.word s Ieee.double.infRung)).isNaN) = true
    rw [read_num (by rw [word_mod _ _ hi];omega)];rfl
  | number s m i=>exact nearest_num s m i
theorem map_num {o:Option Ieee.Datum} {r:Nat} (h:∀ d,o = some d→d.isNaN = false) (hr:o.map Ieee.double.write = some r):fnum r = true:=by
  cases o with
  | none=>cases hr
  | some d=>cases hr;exact write_num (h d rfl)
theorem sum_num (d e g:Ieee.Datum) (h:d.sum e = some g):g.isNaN = false:=by
  cases d <;> cases e <;> simp only [Ieee.Datum.sum] at h
  all_goals first | (cases h;done) | (split at h <;> first | (cases h;rfl) | cases h) | (cases h;rfl)
theorem product_num (d e g:Ieee.Datum) (h:d.product e = some g):g.isNaN = false:=by
  cases d <;> cases e <;> simp only [Ieee.Datum.product] at h
  all_goals first | (cases h;done) | (split at h <;> first | (cases h;rfl) | cases h) | (cases h;rfl)
theorem quotient_num (n:Nat) (d e g:Ieee.Datum) (h:d.quotient n e = some g):g.isNaN = false:=by
  cases d <;> cases e <;> simp only [Ieee.Datum.quotient] at h
  all_goals first | (cases h;done) | (split at h <;> first | (cases h;rfl) | (split at h <;> first | (cases h;rfl) | cases h)) | (cases h;rfl)
theorem floatBits_num {op:BinOp} {b c r:Nat} (h:floatBits op .f64 b c = some r):fnum r = true:=by
  unfold floatBits at h
  split at h
  · exact map_num (sum_num _ _) h
  · exact map_num (sum_num _ _) h
  · exact map_num (product_num _ _) h
  · exact map_num (quotient_num _ _ _) h
  cases h
theorem nan_cut (t:Nat) (x y:Nat):fnum ((Question.nanBits .f64 x y).cut t) = false:=by
  rw [fnum_read,read_nan]
  · rfl
  have e:(Question.nanBits .f64 x y).cut t = (t % 2) * 2 ^ 63 + 0x7ff0000000000000 + 1 + (t / 2) % (2 ^ 52 - 1):=rfl
  have h1:Ieee.double.signWeight = 2 ^ 63:=rfl
  have h2:Ieee.double.infRung = 0x7ff0000000000000:=by decide
  rw [e,h1,h2]
  have h3:(t / 2) % (2 ^ 52 - 1) < 2 ^ 52 - 1:=Nat.mod_lt _ (by decide)
  generalize (t / 2) % (2 ^ 52 - 1) = z at *
  have h4:t % 2 < 2:=Nat.mod_lt _ (by decide)
  generalize t % 2 = s at *
  omega
theorem fcan_num {b:Nat} (h:fnum b = true):fcan b = b:=by unfold fcan;rw [if_pos h]
theorem fcan_nan {b:Nat} (h:fnum b = false):fcan b = fnan:=by unfold fcan;rw [if_neg (by simp [h])]
theorem fnan_not:fnum fnan = false:=by decide +kernel
section
variable {P:Program}
theorem run_farith (op:BinOp) (hop:op = .add∨op = .sub∨op = .mul∨op = .quo) (t:TypeId) (b c:Nat) (w:World) :
    ∃ v w',(binOp op t (.float .f64 b) (.float .f64 c)).run P w = .ok (.float .f64 v) w'∧fcan v = fop op b c∧Ext No w w':=by
  cases h:floatBits op .f64 b c with
  | some r=>exact ⟨r,w,run_float_arith w op t .f64 b c r h,by rw [fcan_num (floatBits_num h)];unfold fop;rw [h];rfl,Ext.refl _ _⟩
  | none=>
    refine ⟨(Question.nanBits .f64 b c).cut (w.tape w.drawn (Question.nanBits .f64 b c)),w.drew,?_,?_,Ext.drew w⟩
    · unfold floatBits at h
      rcases hop with rfl | rfl | rfl | rfl <;> simp only at h <;> simp [binOp,Op.floatArith,h,run_choose_drew,Question.forced]
    rw [fcan_nan (nan_cut _ _ _)]
    unfold fop
    rw [h]
    rfl
end
section
variable {nz:Sz} {P:Program} {n:Nat} {l:List (Nat × Value)} {a:Act} {o:Oper} {x y:Operand} {t t':TypeId} {b c:Nat}
theorem x_farith {op:BinOp} (hT:Sl nz l a) (hop:o.op = .binOp op t x y t') (hx:opnd l x = some (.float .f64 b)) (hy:opnd l y = some (.float .f64 c)) (h:op = .add∨op = .sub∨op = .mul∨op = .quo) (w:World) :
    ∃ r w',(execOp a.eval o).run P w = .ok (.value r) w'∧∃ v,r = .float .f64 v∧fcan v = fop op b c∧Ext No w w':=by
  obtain ⟨v,w',hr,h1,h2⟩:=run_farith (P:=P) op h t b c w
  refine ⟨_,w',?_,v,rfl,h1,h2⟩
  rcases h with rfl | rfl | rfl | rfl <;> simp [execOp,hop,hT.eval hx,hT.eval hy,eqGuard,hr]
theorem x_fbin {op:BinOp} {r:Value} (hT:Sl nz l a) (hop:o.op = .binOp op t x y t') (hx:opnd l x = some (.float .f64 b)) (hy:opnd l y = some (.float .f64 c)) (w:World)
    (hr:(binOp op t (.float .f64 b) (.float .f64 c)).run P w = .ok r w):(execOp a.eval o).run P w = .ok (.value r) w:=by
  cases op <;> simp [execOp,hop,hT.eval hx,hT.eval hy,eqGuard,hr]
theorem x_flt (hT:Sl nz l a) (hop:o.op = .binOp .lss t x y t') (hx:opnd l x = some (.float .f64 b)) (hy:opnd l y = some (.float .f64 c)) (w:World):(execOp a.eval o).run P w = .ok (.value (.bool (flt b c))) w:=
  x_fbin hT hop hx hy w (by simp [binOp,Op.floatCmp,flt,fcmp];rfl)
theorem x_fgt (hT:Sl nz l a) (hop:o.op = .binOp .gtr t x y t') (hx:opnd l x = some (.float .f64 b)) (hy:opnd l y = some (.float .f64 c)) (w:World):(execOp a.eval o).run P w = .ok (.value (.bool (fgt b c))) w:=
  x_fbin hT hop hx hy w (by simp [binOp,Op.floatCmp,fgt,fcmp];rfl)
theorem x_i2f {k:IntKind} {z:Int} {d:TypeDesc} (hT:Sl nz l a) (hop:o.op = .convert t t' x) (hu0:P.underlying t = some d) (hu:P.underlying t' = some (.float .f64)) (hx:opnd l x = some (.int k z)) (w:World):(execOp a.eval o).run P w = .ok (.value (.float .f64 (fofint z))) w:=by
  cases d <;> simp [execOp,hop,hT.eval hx,convert,run_underlying hu0,run_underlying hu,Conv.intToFloat,fofint]
end
/-! bits of words without a sign -/
theorem wrap_u64 {z:Int} (h:0≤z) (h1:z < 18446744073709551616):IntKind.u64.wrap z = z:=by
  unfold IntKind.wrap
  simp [IntKind.signed,IntKind.bits]
  omega
theorem uand_mask (m k:Nat) (hk:k < 64):uand (m:Int) ((2 ^ k - 1:Nat):Int) = ((m % 2 ^ 64 % 2 ^ k:Nat):Int):=by
  have h1:2 ^ k≤2 ^ 63:=Nat.pow_le_pow_right (by omega) (by omega)
  have h2:(BitVec.ofInt 64 (m:Int) &&& BitVec.ofInt 64 ((2 ^ k - 1:Nat):Int)).toNat = m % 2 ^ 64 % 2 ^ k:=by
    rw [BitVec.toNat_and,BitVec.ofInt_natCast,BitVec.ofInt_natCast,BitVec.toNat_ofNat,BitVec.toNat_ofNat,Nat.mod_eq_of_lt (a:=2 ^ k - 1) (by omega),Nat.and_two_pow_sub_one_eq_mod]
  unfold uand
  rw [h2]
  have h3:m % 2 ^ 64 % 2 ^ k < 2 ^ k:=Nat.mod_lt _ (Nat.two_pow_pos _)
  exact wrap_u64 (by omega) (by omega)
section
variable {nz:Sz} {P:Program} {n:Nat} {l:List (Nat × Value)} {a:Act} {o:Oper} {x y:Operand} {t t':TypeId}
theorem x_ushr {m s:Nat} {k:IntKind} (hT:Sl nz l a) (hop:o.op = .binOp .shr t x y t') (hx:opnd l x = some (.int .u64 (m:Int))) (hy:opnd l y = some (.int k (s:Int))) (hs:s≤64) (w:World):(execOp a.eval o).run P w = .ok (.value (.int .u64 ((m / 2 ^ s:Nat):Int))) w:=by
  have h:(binOp .shr t (.int .u64 (m:Int)) (.int k (s:Int))).run P w = .ok (.int .u64 ((m / 2 ^ s:Nat):Int)) w:=by
    have e:(m:Int).fdiv (2 ^ min (s:Int).toNat IntKind.u64.bits) = ((m / 2 ^ s:Nat):Int):=by
      have e2:min (s:Int).toNat IntKind.u64.bits = s:=by
        have:IntKind.u64.bits = 64:=rfl
        omega
      rw [e2]
      have:=Int.fdiv_eq_ediv_of_nonneg (m:Int) (b:=2 ^ s) (by exact Int.pow_nonneg (by decide))
      rw [this]
      simp
    simp only [binOp,Op.shift]
    rw [if_neg (by omega)]
    exact congrArg (fun z=>Result.ok (Value.int .u64 z) w) e
  simp [execOp,hop,hT.eval hx,hT.eval hy,eqGuard,h]
theorem x_fneg {b:Nat} (hT:Sl nz l a) (hop:o.op = .unOp .neg t x) (hx:opnd l x = some (.float .f64 b)) (w:World):(execOp a.eval o).run P w = .ok (.value (.float .f64 (Op.negFloat .f64 b))) w:=by
  simp [execOp,hop,hT.eval hx,Op.unary]
end
end Go.Sx
