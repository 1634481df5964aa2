/- Floats of 64 bits: whole numbers, products with them, the whole number above. -/
import Derived.Test.YtonnladboikmhaaGreatDoorSxS
set_option linter.unusedSimpArgs false
set_option linter.unusedVariables false
namespace Go.Sx
def e74:Nat:=1074
theorem e74_eq:1074 = e74:=rfl
def U:Nat:=2 ^ e74
theorem U_of {k:Nat} (h:k = 1074):2 ^ k = U:=congrArg (fun x:Nat=>2 ^ x) (h.trans e74_eq)
theorem U_pos:0 < U:=Nat.two_pow_pos e74
theorem uval_int {z:Nat} (h:z < 2 ^ 53):∃ r,r < Ieee.double.infRung∧uval r = z * U:=by
  have hi:Ieee.double.infRung = 2047 * 2 ^ 52:=rfl
  by_cases h0:z = 0
  · subst h0;exact ⟨0,by rw [hi];decide,by rw [Nat.zero_mul];rfl⟩
  have hq:z.log2 < 53:=(Nat.log2_lt h0).2 h
  have l1:=Nat.log2_self_le h0
  have l2:=Nat.lt_log2_self (n:=z)
  generalize z.log2 = q at *
  have e1:2 ^ 52≤z * 2 ^ (52 - q):=by
    have:2 ^ q * 2 ^ (52 - q) = 2 ^ 52:=by rw [← Nat.pow_add];congr 1;omega
    rw [← this];exact Nat.mul_le_mul_right _ l1
  have e2:z * 2 ^ (52 - q) < 2 ^ 53:=by
    have:2 ^ (q + 1) * 2 ^ (52 - q) = 2 ^ 53:=by rw [← Nat.pow_add];congr 1;omega
    rw [← this];exact Nat.mul_lt_mul_of_pos_right l2 (Nat.two_pow_pos _)
  refine ⟨(1023 + q) * 2 ^ 52 + (z * 2 ^ (52 - q) - 2 ^ 52),?_,?_⟩
  · rw [hi]
    have:(1023 + q) * 2 ^ 52≤1075 * 2 ^ 52:=Nat.mul_le_mul_right _ (by omega)
    omega
  have d1:((1023 + q) * 2 ^ 52 + (z * 2 ^ (52 - q) - 2 ^ 52)) / 2 ^ 52 = 1023 + q:=by
    rw [Nat.mul_comm,Nat.mul_add_div (Nat.two_pow_pos _),Nat.div_eq_of_lt (by omega)];omega
  have d2:((1023 + q) * 2 ^ 52 + (z * 2 ^ (52 - q) - 2 ^ 52)) % 2 ^ 52 = z * 2 ^ (52 - q) - 2 ^ 52:=by
    rw [Nat.mul_comm,Nat.mul_add_mod,Nat.mod_eq_of_lt (by omega)]
  have d3:¬ (1023 + q) * 2 ^ 52 + (z * 2 ^ (52 - q) - 2 ^ 52) < 2 ^ 52:=by
    have:1023 * 2 ^ 52≤(1023 + q) * 2 ^ 52:=Nat.mul_le_mul_right _ (by omega)
    omega
  unfold uval
  rw [if_neg d3,d1,d2,show 2 ^ 52 + (z * 2 ^ (52 - q) - 2 ^ 52) = z * 2 ^ (52 - q) from by omega,Nat.mul_assoc,← Nat.pow_add,U_of (by omega)]
section
variable {nz:Sz} {P:Program} {n:Nat} {l:List (Nat × Value)} {a:Act} {o:Oper} {x:Operand} {t t':TypeId}
end
end Go.Sx
