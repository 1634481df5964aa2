/- Slices that a contract of the kit's has built. -/
import Derived.Test.YtainemoobhkeiaaDoorSxS
import Derived.Test.YtainemoobhkeiaaDoorSxV
set_option linter.unusedSimpArgs false
set_option linter.unusedVariables false
namespace Go.Sx
section
variable {w w' : World} {base n sz : Nat} {e : TypeId} {v : Value} {xs : List Value}
theorem Row.of_ownsB (h : w.ownsRow base e sz v n xs) : ∃ ad c, v = .slice ad n c ∧ Row w e sz ad n c xs ∧ ∀ k, Own ad k → base ≤ k := by
  obtain ⟨hl, ⟨rfl, rfl⟩ | ⟨g, cap, cur, rfl, hg, hb, hn, hc, hs, ht⟩⟩ := h
  · exact ⟨none, 0, rfl, ⟨hl, .inl ⟨rfl, rfl, rfl⟩⟩, fun k hk => by simp [Own] at hk⟩
  · have e1 : xs ++ cur.toList.drop (n * sz) = cur.toList := by rw [← ht, List.take_append_drop]
    refine ⟨some ⟨g, 0, none⟩, cap, rfl, ⟨hl, .inr ⟨cur.toList.drop (n * sz), rfl, ?_, ?_, hn, hc⟩⟩, fun k hk => ?_⟩
    · show w.heap[g]? = _
      rw [e1, hb]
    · rw [e1, Array.length_toList, hs]
    · have : g = k := by simpa [Own] using hk
      omega
/-[loose
theorem Hp.owned (hb : Go.RowKit.Below w.heap.size w w') (h : w'.ownsRow w.heap.size e sz v n xs) : ∃ ad c, v = .slice ad n c ∧ Hp w No w' [cR e sz ad n c xs] := by
  obtain ⟨ad, c, rfl, hr, hk⟩ := Row.of_ownsB h
  refine ⟨ad, c, rfl, (Hp.start No w).cons (Ext.of_below hb) hr.ck fun k h1 => ⟨hk k h1, ?_⟩⟩
  rcases hr.own with ⟨h2, -, -⟩ | ⟨junk, ha, hB, -⟩
  · rw [h2] at h1; simp [Own] at h1
  · have e9 : Own ad = One (ab ad) := by rw [ha]; exact Own.one
    have h3 : Own ad k := h1
    rw [e9] at h3
    have : k = ab ad := h3
    rw [this]; exact hB.lt
loose]-/
end

/-! 64 bits: xor, products -/
def xr (p q : Nat) : Nat := p % 2 ^ 64 ^^^ q % 2 ^ 64
theorem xr_lt (p q : Nat) : xr p q < 2 ^ 64 := Nat.xor_lt_two_pow (Nat.mod_lt _ (by decide)) (Nat.mod_lt _ (by decide))
theorem uxor_nat (p q : Nat) : uxor (p : Int) (q : Int) = ((xr p q : Nat) : Int) := by
  unfold uxor
  rw [BitVec.ofInt_natCast, BitVec.ofInt_natCast, BitVec.toNat_xor, BitVec.toNat_ofNat, BitVec.toNat_ofNat]
  have h := xr_lt p q
  exact wrap_u64 (z := ((xr p q : Nat) : Int)) (by omega) (by omega)
theorem wrap_umul (p q : Nat) : IntKind.u64.wrap ((p : Int) * (q : Int)) = ((p * q % 2 ^ 64 : Nat) : Int) := by
  unfold IntKind.wrap
  simp [IntKind.signed, IntKind.bits]
section
variable {P : Program} {w : World} {t t' e : TypeId} {n : Nat} {l : List (Nat × Value)} {a : Act} {o : Oper} {x y : Operand}
theorem x_uxor {p q : Nat} (hT : Sl n l a) (hop : o.op = .binOp .xor t x y t') (hx : opnd l x = some (.int .u64 (p : Int))) (hy : opnd l y = some (.int .u64 (q : Int))) (w : World) : (execOp a.eval o).run P w = .ok (.value (.int .u64 ((xr p q : Nat) : Int))) w := by
  rw [← uxor_nat]
  exact x_bin hT hop hx hy w (by simp only [binOp]; rfl)
theorem x_build2 {c1 c2 z1 z2 z0 : Value} {by_ by2 : Nat} (hT : Sl n l a) (hop : o.op = .build t #[(0, x), (1, y)]) (hu : P.underlying t = some (.array 2 e)) (hti : TI P t (.agg #[z1, z2]) 2 by_) (hte : TI P e z0 1 by2)
    (hx : opnd l x = some c1) (hy : opnd l y = some c2) (h1 : c1.cells = #[c1]) (h2 : c2.cells = #[c2]) (w : World) : (execOp a.eval o).run P w = .ok (.value (.agg #[c1, c2])) w := by
  simp [execOp, hop, hT.eval hx, hT.eval hy, Instr.build, run_zeroValue hti, run_underlying hu, run_sizeOf hte, Instr.fill, h1, h2]
  simp [Value.cells]
theorem x_index2 {c1 c2 z0 : Value} {by2 j : Nat} {i : Int} (hT : Sl n l a) (hop : o.op = .index t x y) (hu : P.underlying t = some (.array 2 e)) (hte : TI P e z0 1 by2) (hf : Flat P e)
    (hx : opnd l x = some (.agg #[c1, c2])) (hy : opnd l y = some (.int .i64 i)) (hi : i = (j : Int)) (hj : j < 2) (w : World) : (execOp a.eval o).run P w = .ok (.value (if j = 0 then c1 else c2)) w := by
  subst hi
  have h2 : j = 0 ∨ j = 1 := by omega
  rcases h2 with rfl | rfl
  · have hp := run_part1 (P := P) (cs := #[c1, c2]) (off := 0) hf rfl w
    simp [execOp, hop, hT.eval hx, hT.eval hy, Instr.index, asIntOf, run_underlying hu, run_sizeOf hte, hp]
  · have hp := run_part1 (P := P) (cs := #[c1, c2]) (off := 1) hf rfl w
    simp [execOp, hop, hT.eval hx, hT.eval hy, Instr.index, asIntOf, run_underlying hu, run_sizeOf hte, hp]
end
end Go.Sx
