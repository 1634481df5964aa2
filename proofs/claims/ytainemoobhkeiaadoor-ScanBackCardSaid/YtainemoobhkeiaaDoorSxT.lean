/- Floats of 64 bits: whole numbers, products with them, the whole number above. -/
import Derived.Test.YtainemoobhkeiaaDoorSxS
set_option linter.unusedSimpArgs false
set_option linter.unusedVariables false
namespace Go.Sx
/-- units in one -/
def e74 : Nat := 1074
theorem e74_eq : 1074 = e74 := rfl
def U : Nat := 2 ^ e74
theorem U_of {k : Nat} (h : k = 1074) : 2 ^ k = U := congrArg (fun x : Nat => 2 ^ x) (h.trans e74_eq)
theorem U_pos : 0 < U := Nat.two_pow_pos e74
def fceil (b : Nat) : Nat := Ieee.double.write ((Ieee.double.read b).integral .up)
/-- the rung of a whole number -/
theorem uval_int {z : Nat} (h : z < 2 ^ 53) : ∃ r, r < Ieee.double.infRung ∧ uval r = z * U := by
  have hi : Ieee.double.infRung = 2047 * 2 ^ 52 := rfl
  by_cases h0 : z = 0
  · subst h0; exact ⟨0, by rw [hi]; decide, by rw [Nat.zero_mul]; rfl⟩
  · have hq : z.log2 < 53 := (Nat.log2_lt h0).2 h
    have l1 := Nat.log2_self_le h0
    have l2 := Nat.lt_log2_self (n := z)
    generalize z.log2 = q at *
    have e1 : 2 ^ 52 ≤ z * 2 ^ (52 - q) := by
      have : 2 ^ q * 2 ^ (52 - q) = 2 ^ 52 := by rw [← Nat.pow_add]; congr 1; omega
      rw [← this]; exact Nat.mul_le_mul_right _ l1
    have e2 : z * 2 ^ (52 - q) < 2 ^ 53 := by
      have : 2 ^ (q + 1) * 2 ^ (52 - q) = 2 ^ 53 := by rw [← Nat.pow_add]; congr 1; omega
      rw [← this]; exact Nat.mul_lt_mul_of_pos_right l2 (Nat.two_pow_pos _)
    refine ⟨(1023 + q) * 2 ^ 52 + (z * 2 ^ (52 - q) - 2 ^ 52), ?_, ?_⟩
    · rw [hi]
      have : (1023 + q) * 2 ^ 52 ≤ 1075 * 2 ^ 52 := Nat.mul_le_mul_right _ (by omega)
      omega
    · have d1 : ((1023 + q) * 2 ^ 52 + (z * 2 ^ (52 - q) - 2 ^ 52)) / 2 ^ 52 = 1023 + q := by
        rw [Nat.mul_comm, Nat.mul_add_div (Nat.two_pow_pos _), Nat.div_eq_of_lt (by omega)]; omega
      have d2 : ((1023 + q) * 2 ^ 52 + (z * 2 ^ (52 - q) - 2 ^ 52)) % 2 ^ 52 = z * 2 ^ (52 - q) - 2 ^ 52 := by
        rw [Nat.mul_comm, Nat.mul_add_mod, Nat.mod_eq_of_lt (by omega)]
      have d3 : ¬ (1023 + q) * 2 ^ 52 + (z * 2 ^ (52 - q) - 2 ^ 52) < 2 ^ 52 := by
        have : 1023 * 2 ^ 52 ≤ (1023 + q) * 2 ^ 52 := Nat.mul_le_mul_right _ (by omega)
        omega
      unfold uval
      rw [if_neg d3, d1, d2, show 2 ^ 52 + (z * 2 ^ (52 - q) - 2 ^ 52) = z * 2 ^ (52 - q) from by omega, Nat.mul_assoc, ← Nat.pow_add, U_of (by omega)]
theorem nearest_fin (s : Bool) {m r : Nat} {p : Int} (hr : r < Ieee.double.infRung) (hp : -1074 ≤ p) (h : m * 2 ^ (p + 1074).toNat = uval r) : Ieee.double.nearest s m p = Ieee.double.word s r := by
  rw [nearest_rung s m p (-1074) hp (by omega)]
  have e : (p - -1074).toNat = (p + 1074).toNat := by omega
  have := rungT_uval r 0
  rw [Nat.pow_zero, Nat.mul_one] at this
  rw [e, h, show (-1074 - (-1074 : Int)).toNat = 0 from rfl, this, Nat.min_eq_left (by omega)]
theorem fofint_rung {z r : Nat} (hr : r < Ieee.double.infRung) (h : uval r = z * U) : fofint (z : Int) = r := by
  show Ieee.double.nearest (decide ((z : Int) < 0)) (z : Int).natAbs 0 = r
  rw [decide_eq_false (by omega), Int.natAbs_natCast, nearest_fin false hr (by omega) (by rw [h, U_of (by omega)])]
  rfl
theorem cut_down (s : Bool) (n d : Nat) : Ieee.Toward.zero.cut s n d = n / 2 ^ d := by
  unfold Ieee.Toward.cut
  dsimp only
  rw [Nat.one_shiftLeft]
  rcases Nat.le_total d (n.log2 + 2) with h | h
  · rw [Nat.min_eq_left h]; rfl
  · rw [Nat.min_eq_right h]
    have h0 : n < 2 ^ (n.log2 + 1) := Nat.lt_log2_self
    have h1 : 2 ^ (n.log2 + 1) ≤ 2 ^ (n.log2 + 2) := Nat.pow_le_pow_right (by omega) (by omega)
    have h2 : 2 ^ (n.log2 + 2) ≤ 2 ^ d := Nat.pow_le_pow_right (by omega) h
    rw [Nat.div_eq_of_lt (by omega), Nat.div_eq_of_lt (by omega)]
    rfl
theorem cut_up (n d : Nat) (k : Nat) : k < Ieee.Toward.up.cut false n d ↔ k * 2 ^ d < n := by
  have key : ∀ g, 0 < g → (k < n / g + (!false && n % g != 0).toNat ↔ k * g < n) := by
    intro g hg
    have h1 := Nat.div_add_mod n g
    have h2 := Nat.mod_lt n hg
    rcases Nat.lt_trichotomy k (n / g) with h | h | h
    · have : (k + 1) * g ≤ n / g * g := Nat.mul_le_mul_right _ h
      rw [Nat.mul_comm (n / g)] at this
      rw [Nat.add_mul] at this
      constructor <;> intro <;> omega
    · subst h
      rw [Nat.mul_comm (n / g)]
      by_cases h0 : n % g = 0
      · simp [h0]; omega
      · have : (n % g != 0) = true := by simp [h0]
        rw [this]; simp; omega
    · have : (n / g + 1) * g ≤ k * g := Nat.mul_le_mul_right _ h
      rw [Nat.add_mul, Nat.mul_comm (n / g)] at this
      have h3 : (!false && n % g != 0).toNat ≤ 1 := by cases (!false && n % g != 0) <;> simp
      constructor <;> intro <;> omega
  unfold Ieee.Toward.cut
  dsimp only
  rw [Nat.one_shiftLeft]
  rcases Nat.le_total d (n.log2 + 2) with h | h
  · rw [Nat.min_eq_left h]; exact key _ (Nat.two_pow_pos _)
  · rw [Nat.min_eq_right h]
    refine (key _ (Nat.two_pow_pos _)).trans ?_
    have h0 : n < 2 ^ (n.log2 + 1) := Nat.lt_log2_self
    have h1 : 2 ^ (n.log2 + 1) ≤ 2 ^ (n.log2 + 2) := Nat.pow_le_pow_right (by omega) (by omega)
    have h2 : 2 ^ (n.log2 + 2) ≤ 2 ^ d := Nat.pow_le_pow_right (by omega) h
    rcases Nat.eq_zero_or_pos k with hk | hk
    · subst hk; simp
    · have h3 : 1 * 2 ^ (n.log2 + 2) ≤ k * 2 ^ (n.log2 + 2) := Nat.mul_le_mul_right _ hk
      have h4 : 1 * 2 ^ d ≤ k * 2 ^ d := Nat.mul_le_mul_right _ hk
      constructor <;> intro <;> omega
/-- a number of the format, cut to a whole one -/
theorem toInt_fin {r z : Nat} (hr : r < Ieee.double.infRung) (h : uval r = z * U) : (Ieee.double.read r).toInt .zero = some (z : Int) := by
  obtain ⟨m, p, e, hp, hm⟩ := read_fin false hr
  have wr : Ieee.double.word false r = r := rfl
  rw [wr] at e
  rw [e]
  show some (Ieee.signed false (Ieee.Toward.zero.cut false (m <<< p.toNat) (-p).toNat) 0) = _
  rw [cut_down, Nat.shiftLeft_eq]
  unfold Ieee.signed
  rw [if_neg (by decide), Nat.shiftLeft_zero]
  congr 2
  have h1074 := U_pos
  rcases Int.le_total 0 p with h0 | h0
  · have e1 : (-p).toNat = 0 := by omega
    rw [e1, Nat.pow_zero, Nat.div_one]
    rw [h, show (p + 1074).toNat = p.toNat + 1074 from by omega, Nat.pow_add, U_of rfl, ← Nat.mul_assoc] at hm
    exact Nat.eq_of_mul_eq_mul_right h1074 hm
  · have e1 : p.toNat = 0 := by omega
    rw [e1, Nat.pow_zero, Nat.mul_one]
    have h5 : U = 2 ^ (-p).toNat * 2 ^ (p + 1074).toNat := by rw [← Nat.pow_add, U_of (by omega)]
    rw [h, h5, ← Nat.mul_assoc] at hm
    have hk := Nat.two_pow_pos (p + 1074).toNat
    have hm2 : m = z * 2 ^ (-p).toNat := Nat.eq_of_mul_eq_mul_right hk hm
    rw [hm2, Nat.mul_div_cancel _ (Nat.two_pow_pos _)]
/-- the whole number above -/
theorem ceil_fin {r : Nat} (hr : r < Ieee.double.infRung) : ∃ z : Nat, fceil r = Ieee.double.nearest false z 0 ∧ ∀ k : Nat, k < z ↔ k * U < uval r := by
  obtain ⟨m, p, e, hp, hm⟩ := read_fin false hr
  have wr : Ieee.double.word false r = r := rfl
  rw [wr] at e
  unfold fceil
  rw [e]
  refine ⟨Ieee.Toward.up.cut false (m <<< p.toNat) (-p).toNat, rfl, fun k => ?_⟩
  rw [cut_up, Nat.shiftLeft_eq, ← hm]
  rcases Int.le_total 0 p with h0 | h0
  · have e1 : (-p).toNat = 0 := by omega
    rw [e1, Nat.pow_zero, Nat.mul_one, show (p + 1074).toNat = p.toNat + 1074 from by omega, Nat.pow_add, U_of rfl, ← Nat.mul_assoc]
    exact (Nat.mul_lt_mul_right U_pos).symm
  · have e1 : p.toNat = 0 := by omega
    rw [e1, Nat.pow_zero, Nat.mul_one]
    have h5 : U = 2 ^ (-p).toNat * 2 ^ (p + 1074).toNat := by rw [← Nat.pow_add, U_of (by omega)]
    rw [h5, ← Nat.mul_assoc]
    exact (Nat.mul_lt_mul_right (Nat.two_pow_pos _)).symm
/-- a number times a whole one -/
theorem mul_fin {r rn n : Nat} (hr : r < Ieee.double.infRung) (hn : rn < Ieee.double.infRung) (h : uval rn = n * U) :
    Ieee.double.mul r rn = some (min (rungT (uval r * (n * U)) 1074) Ieee.double.infRung) := by
  obtain ⟨m, p, e, hp, hm⟩ := read_fin false hr
  obtain ⟨m2, p2, e2, hp2, hm2⟩ := read_fin false hn
  have wr : ∀ r, Ieee.double.word false r = r := fun r => rfl
  rw [wr] at e e2
  unfold Ieee.Format.mul
  rw [e, e2]
  show some (Ieee.double.nearest false (m * m2) (p + p2)) = _
  rw [nearest_rung false (m * m2) (p + p2) (-2148) (by omega) (by omega), wr, ← hm, ← h, ← hm2]
  have e3 : (p + p2 - -2148).toNat = (p + 1074).toNat + (p2 + 1074).toNat := by omega
  rw [e3, Nat.pow_add, show m * m2 * (2 ^ (p + 1074).toNat * 2 ^ (p2 + 1074).toNat) = m * 2 ^ (p + 1074).toNat * (m2 * 2 ^ (p2 + 1074).toNat) from by rw [Nat.mul_assoc, Nat.mul_assoc, Nat.mul_left_comm m2]]
  rfl
section
variable {P : Program} {n : Nat} {l : List (Nat × Value)} {a : Act} {o : Oper} {x : Operand} {t t' : TypeId}
theorem run_ceil {b : Nat} (h : fnum b = true) (w : World) : (Extern.MathFloor.toIntegral "math.archCeil" .up #[.float .f64 b]).run P w = .ok (.float .f64 (fceil b)) w := by
  rw [fnum_read] at h
  show Sem.run P (match Ieee.double.read b with
    | .nan s t => if FloatKind.f64.format.quiet t = t then pure (Value.float .f64 b) else do
        let kept ← choose (.extern "math.Floor,Ceil,Trunc,RoundToEven.signallingNaN kept" 2)
        pure (Value.float .f64 (if kept == 1 then b else FloatKind.f64.encode (.nan s (FloatKind.f64.format.quiet t))))
    | d => pure (Value.float .f64 (FloatKind.f64.encode (d.integral .up)))) w = _
  unfold fceil
  cases hr : Ieee.double.read b with
  | nan s t => rw [hr] at h; cases h
  | infinity s => rfl
  | number s m i => rfl
theorem x_f2i {b : Nat} {k : IntKind} {z : Int} {d : TypeDesc} (hT : Sl n l a) (hop : o.op = .convert t t' x) (hu0 : P.underlying t = some d) (hu : P.underlying t' = some (.int k)) (hx : opnd l x = some (.float .f64 b)) (hz : floatToIntVal .f64 b k = some z) (w : World) : (execOp a.eval o).run P w = .ok (.value (.int k z)) w := by
  have h := run_convert_float_int (P := P) w t t' .f64 k b z (by rw [hu0]; rfl) hu hz
  simp [execOp, hop, hT.eval hx, h]
end
end Go.Sx
