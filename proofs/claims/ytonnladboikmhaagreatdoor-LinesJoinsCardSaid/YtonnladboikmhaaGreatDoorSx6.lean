/- Bits of whole numbers without a sign, of any width, as natural numbers; floats turned over. -/
import Derived.Test.YtonnladboikmhaaGreatDoorSxR
set_option linter.unusedSimpArgs false
set_option linter.unusedVariables false
namespace Go.Sx
theorem wrap_un {k:IntKind} (hk:k.signed = false) {m:Nat} (h:m < 2 ^ k.bits):k.wrap (m:Int) = (m:Int):=by
  unfold IntKind.wrap
  dsimp only
  rw [hk]
  have e:(m:Int) % (2 ^ k.bits:Int) = (m:Int):=Int.emod_eq_of_lt (Int.natCast_nonneg _) (by exact_mod_cast h)
  rw [e]
  rfl
theorem and_lt2 {p q n:Nat} (h:p < 2 ^ n):p &&& q < 2 ^ n:=Nat.lt_of_le_of_lt Nat.and_le_left h
section
variable {nz:Sz} {P:Program} {n:Nat} {l:List (Nat × Value)} {a:Act} {o:Oper} {x y:Operand} {t t':TypeId} {k:IntKind} {p q:Nat}
theorem x_kand (hT:Sl nz l a) (hop:o.op = .binOp .and t x y t') (hx:opnd l x = some (.int k (p:Int))) (hy:opnd l y = some (.int k (q:Int))) (hk:k.signed = false) (hp:p < 2 ^ k.bits) (hq:q < 2 ^ k.bits) (w:World):(execOp a.eval o).run P w = .ok (.value (.int k ((p &&& q:Nat):Int))) w:=by
  refine x_bin hT hop hx hy w ?_
  have e:(BitVec.ofInt k.bits (p:Int) &&& BitVec.ofInt k.bits (q:Int)).toNat = p &&& q:=by
    rw [BitVec.ofInt_natCast,BitVec.ofInt_natCast,BitVec.toNat_and,BitVec.toNat_ofNat,BitVec.toNat_ofNat,Nat.mod_eq_of_lt hp,Nat.mod_eq_of_lt hq]
  simp only [binOp]
  rw [if_neg (fun h=>h rfl)]
  show Result.ok (Value.int k (k.wrap ((BitVec.ofInt k.bits (p:Int) &&& BitVec.ofInt k.bits (q:Int)).toNat:Int))) w = _
  rw [e,wrap_un hk (and_lt2 hp)]
theorem x_kor (hT:Sl nz l a) (hop:o.op = .binOp .or t x y t') (hx:opnd l x = some (.int k (p:Int))) (hy:opnd l y = some (.int k (q:Int))) (hk:k.signed = false) (hp:p < 2 ^ k.bits) (hq:q < 2 ^ k.bits) (w:World):(execOp a.eval o).run P w = .ok (.value (.int k ((p ||| q:Nat):Int))) w:=by
  refine x_bin hT hop hx hy w ?_
  have e:(BitVec.ofInt k.bits (p:Int) ||| BitVec.ofInt k.bits (q:Int)).toNat = p ||| q:=by
    rw [BitVec.ofInt_natCast,BitVec.ofInt_natCast,BitVec.toNat_or,BitVec.toNat_ofNat,BitVec.toNat_ofNat,Nat.mod_eq_of_lt hp,Nat.mod_eq_of_lt hq]
  simp only [binOp]
  rw [if_neg (fun h=>h rfl)]
  show Result.ok (Value.int k (k.wrap ((BitVec.ofInt k.bits (p:Int) ||| BitVec.ofInt k.bits (q:Int)).toNat:Int))) w = _
  rw [e,wrap_un hk (Nat.or_lt_two_pow hp hq)]
theorem x_kxor (hT:Sl nz l a) (hop:o.op = .binOp .xor t x y t') (hx:opnd l x = some (.int k (p:Int))) (hy:opnd l y = some (.int k (q:Int))) (hk:k.signed = false) (hp:p < 2 ^ k.bits) (hq:q < 2 ^ k.bits) (w:World):(execOp a.eval o).run P w = .ok (.value (.int k ((p ^^^ q:Nat):Int))) w:=by
  refine x_bin hT hop hx hy w ?_
  have e:(BitVec.ofInt k.bits (p:Int) ^^^ BitVec.ofInt k.bits (q:Int)).toNat = p ^^^ q:=by
    rw [BitVec.ofInt_natCast,BitVec.ofInt_natCast,BitVec.toNat_xor,BitVec.toNat_ofNat,BitVec.toNat_ofNat,Nat.mod_eq_of_lt hp,Nat.mod_eq_of_lt hq]
  simp only [binOp]
  rw [if_neg (fun h=>h rfl)]
  show Result.ok (Value.int k (k.wrap ((BitVec.ofInt k.bits (p:Int) ^^^ BitVec.ofInt k.bits (q:Int)).toNat:Int))) w = _
  rw [e,wrap_un hk (Nat.xor_lt_two_pow hp hq)]
theorem x_kandn (hT:Sl nz l a) (hop:o.op = .binOp .andNot t x y t') (hx:opnd l x = some (.int k (p:Int))) (hy:opnd l y = some (.int k (q:Int))) (hk:k.signed = false) (hp:p < 2 ^ k.bits) (hq:q < 2 ^ k.bits) (w:World):(execOp a.eval o).run P w = .ok (.value (.int k ((p &&& (2 ^ k.bits - 1 - q):Nat):Int))) w:=by
  refine x_bin hT hop hx hy w ?_
  have e:(BitVec.ofInt k.bits (p:Int) &&& ~~~BitVec.ofInt k.bits (q:Int)).toNat = p &&& (2 ^ k.bits - 1 - q):=by
    rw [BitVec.ofInt_natCast,BitVec.ofInt_natCast,BitVec.toNat_and,BitVec.toNat_not,BitVec.toNat_ofNat,BitVec.toNat_ofNat,Nat.mod_eq_of_lt hp,Nat.mod_eq_of_lt hq]
  simp only [binOp]
  rw [if_neg (fun h=>h rfl)]
  show Result.ok (Value.int k (k.wrap ((BitVec.ofInt k.bits (p:Int) &&& ~~~BitVec.ofInt k.bits (q:Int)).toNat:Int))) w = _
  rw [e,wrap_un hk (and_lt2 hp)]
theorem x_kshr {j:IntKind} {s:Nat} (hT:Sl nz l a) (hop:o.op = .binOp .shr t x y t') (hx:opnd l x = some (.int k (p:Int))) (hy:opnd l y = some (.int j (s:Int))) (hs:s≤k.bits) (w:World):(execOp a.eval o).run P w = .ok (.value (.int k ((p / 2 ^ s:Nat):Int))) w:=by
  have h:(binOp .shr t (.int k (p:Int)) (.int j (s:Int))).run P w = .ok (.int k ((p / 2 ^ s:Nat):Int)) w:=by
    have e:(p:Int).fdiv (2 ^ min (s:Int).toNat k.bits) = ((p / 2 ^ s:Nat):Int):=by
      rw [show min (s:Int).toNat k.bits = s from by omega]
      have:=Int.fdiv_eq_ediv_of_nonneg (p:Int) (b:=2 ^ s) (by exact Int.pow_nonneg (by decide))
      rw [this]
      simp
    simp only [binOp,Op.shift]
    rw [if_neg (by omega)]
    exact congrArg (fun z=>Result.ok (Value.int k z) w) e
  simp [execOp,hop,hT.eval hx,hT.eval hy,eqGuard,h]
theorem x_kshl {j:IntKind} {s r:Nat} (hT:Sl nz l a) (hop:o.op = .binOp .shl t x y t') (hx:opnd l x = some (.int k (p:Int))) (hy:opnd l y = some (.int j (s:Int))) (hk:k.signed = false) (hs:s≤k.bits) (hr:p * 2 ^ s = r) (hr2:r < 2 ^ k.bits) (w:World):(execOp a.eval o).run P w = .ok (.value (.int k (r:Int))) w:=by
  have h:(binOp .shl t (.int k (p:Int)) (.int j (s:Int))).run P w = .ok (.int k (r:Int)) w:=by
    have e:k.wrap ((p:Int) * 2 ^ min (s:Int).toNat k.bits) = (r:Int):=by
      rw [show min (s:Int).toNat k.bits = s from by omega,show (p:Int) * 2 ^ s = ((p * 2 ^ s:Nat):Int) from by simp,hr]
      exact wrap_un hk hr2
    simp only [binOp,Op.shift]
    rw [if_neg (by omega)]
    exact congrArg (fun z=>Result.ok (Value.int k z) w) e
  simp [execOp,hop,hT.eval hx,hT.eval hy,eqGuard,h]
theorem x_knot (hT:Sl nz l a) (hop:o.op = .unOp .xor t x) (hx:opnd l x = some (.int k (p:Int))) (hk:k.signed = false) (hp:p < 2 ^ k.bits) (w:World):(execOp a.eval o).run P w = .ok (.value (.int k (((2 ^ k.bits - 1) ^^^ p:Nat):Int))) w:=by
  have hpos:=Nat.two_pow_pos k.bits
  have hm:k.max = ((2 ^ k.bits - 1:Nat):Int):=by
    unfold IntKind.max
    rw [hk,if_neg (by decide)]
    rw [Int.natCast_sub (by omega)]
    simp
  have h:(Op.unary .xor (.int k (p:Int))).run P w = .ok (.int k (((2 ^ k.bits - 1) ^^^ p:Nat):Int)) w:=by
    have e:(BitVec.ofInt k.bits k.max ^^^ BitVec.ofInt k.bits (p:Int)).toNat = (2 ^ k.bits - 1) ^^^ p:=by
      rw [hm,BitVec.ofInt_natCast,BitVec.ofInt_natCast,BitVec.toNat_xor,BitVec.toNat_ofNat,BitVec.toNat_ofNat,Nat.mod_eq_of_lt hp,Nat.mod_eq_of_lt (by omega)]
    have e2:(if k.signed = true then (-1:Int) else k.max) = k.max:=by rw [hk];rfl
    simp only [Op.unary,e2]
    show Result.ok (Value.int k (k.wrap ((BitVec.ofInt k.bits k.max ^^^ BitVec.ofInt k.bits (p:Int)).toNat:Int))) w = _
    rw [e,wrap_un hk (Nat.xor_lt_two_pow (by omega) hp)]
  simp [execOp,hop,hT.eval hx,h]
theorem x_kneg {r:Int} (hT:Sl nz l a) (hop:o.op = .unOp .neg t x) {z:Int} (hx:opnd l x = some (.int k z)) (hr:k.wrap (0 - z) = r) (w:World):(execOp a.eval o).run P w = .ok (.value (.int k r)) w:=by
  have h:(Op.unary .neg (.int k z)).run P w = .ok (.int k r) w:=by
    rw [← hr]
    rfl
  simp [execOp,hop,hT.eval hx,h]
end
/-! the same for whole numbers with a sign, none of them below nought -/
theorem wrap_si {k:IntKind} (hk:k.signed = true) (hb:0 < k.bits) {m:Nat} (h:m < 2 ^ (k.bits - 1)):k.wrap (m:Int) = (m:Int):=by
  unfold IntKind.wrap
  dsimp only
  have h2:2 ^ (k.bits - 1)≤2 ^ k.bits:=Nat.pow_le_pow_right (by decide) (by omega)
  have e:(m:Int) % (2 ^ k.bits:Int) = (m:Int):=Int.emod_eq_of_lt (Int.natCast_nonneg _) (by exact_mod_cast Nat.lt_of_lt_of_le h h2)
  have h3:¬ (m:Int) ≥ (2 ^ (k.bits - 1):Int):=by
    have:(m:Int) < (2 ^ (k.bits - 1):Int):=by exact_mod_cast h
    omega
  rw [e,hk,decide_eq_false h3]
  rfl
section
variable {nz:Sz} {P:Program} {n:Nat} {l:List (Nat × Value)} {a:Act} {o:Oper} {x y:Operand} {t t':TypeId} {k:IntKind} {p q:Nat}
theorem x_iand (hT:Sl nz l a) (hop:o.op = .binOp .and t x y t') (hx:opnd l x = some (.int .i64 (p:Int))) (hy:opnd l y = some (.int .i64 (q:Int))) (hp:p < 9223372036854775808) (hq:q < 9223372036854775808) (w:World):(execOp a.eval o).run P w = .ok (.value (.int .i64 ((p &&& q:Nat):Int))) w:=by
  refine x_bin hT hop hx hy w ?_
  have e:(BitVec.ofInt 64 (p:Int) &&& BitVec.ofInt 64 (q:Int)).toNat = p &&& q:=by
    rw [BitVec.ofInt_natCast,BitVec.ofInt_natCast,BitVec.toNat_and,BitVec.toNat_ofNat,BitVec.toNat_ofNat,Nat.mod_eq_of_lt (by omega),Nat.mod_eq_of_lt (by omega)]
  simp only [binOp]
  rw [if_neg (fun h=>h rfl)]
  show Result.ok (Value.int .i64 (IntKind.i64.wrap ((BitVec.ofInt 64 (p:Int) &&& BitVec.ofInt 64 (q:Int)).toNat:Int))) w = _
  rw [e,wrap_si (k:=.i64) rfl (by decide) (Nat.lt_of_le_of_lt Nat.and_le_left hp)]
theorem x_ior (hT:Sl nz l a) (hop:o.op = .binOp .or t x y t') (hx:opnd l x = some (.int .i64 (p:Int))) (hy:opnd l y = some (.int .i64 (q:Int))) (hp:p < 9223372036854775808) (hq:q < 9223372036854775808) (w:World):(execOp a.eval o).run P w = .ok (.value (.int .i64 ((p ||| q:Nat):Int))) w:=by
  refine x_bin hT hop hx hy w ?_
  have e:(BitVec.ofInt 64 (p:Int) ||| BitVec.ofInt 64 (q:Int)).toNat = p ||| q:=by
    rw [BitVec.ofInt_natCast,BitVec.ofInt_natCast,BitVec.toNat_or,BitVec.toNat_ofNat,BitVec.toNat_ofNat,Nat.mod_eq_of_lt (by omega),Nat.mod_eq_of_lt (by omega)]
  simp only [binOp]
  rw [if_neg (fun h=>h rfl)]
  show Result.ok (Value.int .i64 (IntKind.i64.wrap ((BitVec.ofInt 64 (p:Int) ||| BitVec.ofInt 64 (q:Int)).toNat:Int))) w = _
  rw [e,wrap_si (k:=.i64) rfl (by decide) (Nat.or_lt_two_pow (n:=63) hp hq)]
theorem x_ishl {j:IntKind} {s r:Nat} (hT:Sl nz l a) (hop:o.op = .binOp .shl t x y t') (hx:opnd l x = some (.int .i64 (p:Int))) (hy:opnd l y = some (.int j (s:Int))) (hs:s≤64) (hr:p * 2 ^ s = r) (hr2:r < 9223372036854775808) (w:World):(execOp a.eval o).run P w = .ok (.value (.int .i64 (r:Int))) w:=by
  have h:(binOp .shl t (.int .i64 (p:Int)) (.int j (s:Int))).run P w = .ok (.int .i64 (r:Int)) w:=by
    have e:IntKind.i64.wrap ((p:Int) * 2 ^ min (s:Int).toNat IntKind.i64.bits) = (r:Int):=by
      rw [show min (s:Int).toNat IntKind.i64.bits = s from by have:IntKind.i64.bits = 64:=rfl;omega,show (p:Int) * 2 ^ s = ((p * 2 ^ s:Nat):Int) from by simp,hr]
      exact wrap_si (k:=.i64) rfl (by decide) hr2
    simp only [binOp,Op.shift]
    rw [if_neg (by omega)]
    exact congrArg (fun z=>Result.ok (Value.int .i64 z) w) e
  simp [execOp,hop,hT.eval hx,hT.eval hy,eqGuard,h]
end
end Go.Sx
