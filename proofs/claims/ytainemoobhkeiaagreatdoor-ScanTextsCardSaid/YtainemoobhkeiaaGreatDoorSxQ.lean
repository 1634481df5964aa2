/- Rows of things: an element written over, told as a list. -/
import Derived.Test.YtainemoobhkeiaaGreatDoorSxN
set_option linter.unusedSimpArgs false
set_option linter.unusedVariables false
namespace Go.Sx
section
variable {α : Type} {enc : α → List Value} {sz : Nat}
theorem flat_set (he : ∀ x, (enc x).length = sz) : ∀ {xs : List α} {k : Nat} (x : α), k < xs.length → (xs.set k x).flatMap enc = (xs.flatMap enc).take (k * sz) ++ enc x ++ (xs.flatMap enc).drop (k * sz + sz)
  | [], k, x, h => by simp at h
  | y :: ys, 0, x, h => by
    simp only [List.set_cons_zero, List.flatMap_cons, Nat.zero_mul, List.take_zero, List.nil_append, Nat.zero_add]
    rw [← he y, List.drop_left]
  | y :: ys, k + 1, x, h => by
    have ih := flat_set he (xs := ys) (k := k) x (by simpa using h)
    have e : (k + 1) * sz = (enc y).length + k * sz := by rw [he y, Nat.add_mul]; omega
    simp only [List.set_cons_succ, List.flatMap_cons, ih]
    rw [e, List.take_length_add_append, Nat.add_assoc, List.drop_length_add_append]
    simp [List.append_assoc]
end
section
variable {P : Program} {w : World} {t e : TypeId} {n : Nat} {l : List (Nat × Value)} {a : Act} {o : Oper} {x y : Operand} {v : Value} {α : Type} {enc : α → List Value} {sz : Nat}
theorem x_storeRowS {z : Value} {by_ m c k : Nat} {ad : Option Addr} {xs : List α} {r : α} (hT : Sl n l a) (hop : o.op = .store t x y) (hti : TI P t z sz by_) (hx : opnd l x = some (.pointer (some ⟨ab ad, ao ad + k * sz, none⟩))) (hy : opnd l y = some v)
    (he : ∀ x, (enc x).length = sz) (h1 : ∀ x, ∀ u ∈ enc x, u.oneCell' = true) (hv : cellsOf v = some (enc r)) (h : Row w e sz ad m c (xs.flatMap enc)) (hm : m = xs.length) (hk : k < m) :
    ∃ w', (execOp a.eval o).run P w = .ok .skip w' ∧ Row w' e sz ad m c ((xs.set k r).flatMap enc) ∧ Ext (Own ad) w w' ∧ w'.heap.size = w.heap.size := by
  have hl := h.len
  rcases h.own with ⟨-, h0, -⟩ | ⟨junk, ha, hB, hc, h1', h2⟩
  · omega
  · have hao : ao ad = 0 := by rw [ha]; rfl
    rw [hao, Nat.zero_add] at hx
    have hfit : k * sz + sz ≤ (xs.flatMap enc).length := by
      rw [hl, ← Nat.succ_mul]
      exact Nat.mul_le_mul_right _ hk
    have her := he r
    obtain ⟨w', hr, hB', hE, hs⟩ := x_store hT hop (by rw [her]; exact hti) hx hy (cellsOf_eq hv) hB (by rw [her, List.length_append]; omega) (h1 r)
    refine ⟨w', hr, ⟨?_, .inr ⟨junk, ha, ?_, ?_, h1', h2⟩⟩, ?_, hs⟩
    · rw [flat_len he, List.length_set, ← hm]
    · rw [flat_set he r (by omega)]
      rw [her, List.take_append_of_le_length (by omega), List.drop_append_of_le_length (by omega)] at hB'
      simpa only [List.append_assoc] using hB'
    · rw [List.length_append] at hc ⊢
      rw [flat_len he, List.length_set, ← flat_len he (xs := xs)]
      exact hc
    · have : Own ad = One (ab ad) := by rw [ha]; exact Own.one
      rw [this]
      exact hE
end
section
variable {P : Program} {t e : TypeId} {n : Nat} {l : List (Nat × Value)} {a : Act} {o : Oper} {x : Operand}
theorem run_sliceAt_hm {z : Value} {sz by_ m c hi mx : Nat} {ad : Option Addr} {q r : Int} (hu : P.underlying t = some (.slice e)) (hti : TI P e z sz by_) (hq : q = (hi : Int)) (hr : r = (mx : Int)) (h2 : hi ≤ mx) (h3 : mx ≤ c) (w : World) :
    (Instr.sliceAt t (.slice ad m c) none (some (.int .i64 q)) (some (.int .i64 r))).run P w = .ok (.slice ad hi mx) w := by
  subst hq; subst hr
  have hz : cutAt ad sz 0 mx = ad := cutAt_zero ..
  unfold cutAt at hz
  simp [Instr.sliceAt, Instr.slice, run_underlying hu, Instr.sliceBounds, run_sliceBound, run_sizeOf hti, h2, h3]
  intro hc
  cases ad <;> simp [Addr.add]
theorem x_slice_hm {hi mx : Operand} {z : Value} {sz by_ m c q r : Nat} {ad : Option Addr} {iq ir : Int} (hT : Sl n l a) (hop : o.op = .slice t x none (some hi) (some mx)) (hu : P.underlying t = some (.slice e)) (hti : TI P e z sz by_) (hx : opnd l x = some (.slice ad m c))
    (hhi : opnd l hi = some (.int .i64 iq)) (hmx : opnd l mx = some (.int .i64 ir)) (hq : iq = (q : Int)) (hr : ir = (r : Int)) (h2 : q ≤ r) (h3 : r ≤ c) (w : World) : (execOp a.eval o).run P w = .ok (.value (.slice ad q r)) w :=
  x_slice hT hop hx (by simp only [Option.map_some, Option.map_none, hT.eval hhi, hT.eval hmx]; exact run_sliceAt_hm hu hti hq hr h2 h3 w)
end
section
variable {P : Program} {ops : Array Oper} {Q : Exit → Act → World → Prop} {H : World → Prop} {s : List (Nat × How)} {i n : Nat} {l : List (Nat × Value)} {a : Act} {w : World} {o : Oper}
end
structure Wr (w : World) (e : TypeId) (sz : Nat) (ad : Option Addr) (n : Nat) (xs : List Value) : Prop where
  len : xs.length = n * sz
  own : n = 0 ∨ ∃ junk, ad = some ⟨ab ad, 0, none⟩ ∧ Blk w (ab ad) (xs ++ junk) e
def cW (e : TypeId) (sz : Nat) (ad : Option Addr) (n : Nat) (xs : List Value) : Chunk := (Own ad, fun w => Wr w e sz ad n xs)
section
variable {P : Program} {w w0 : World} {S : Nat → Prop} {t e : TypeId} {n : Nat} {l : List (Nat × Value)} {hl l' : List Chunk} {a : Act} {o : Oper} {x y : Operand} {v : Value} {α : Type} {enc : α → List Value} {sz c m : Nat} {ad : Option Addr} {xs : List Value}
theorem Row.ssn {xs : List α} (h : Row w e sz ad n c (xs.flatMap enc)) (hn : n = xs.length) : Ss w ad enc sz xs := by
  subst hn; exact h.sv
theorem Row.wr (h : Row w e sz ad n c xs) {k : Nat} (hk : k ≤ n) : Wr w e sz ad k (xs.take (k * sz)) := by
  have hl := h.len
  refine ⟨by rw [List.length_take, hl, Nat.min_eq_left (Nat.mul_le_mul_right _ hk)], ?_⟩
  rcases h.own with ⟨-, h0, -⟩ | ⟨junk, ha, hB, -, -, -⟩
  · exact .inl (by omega)
  · refine .inr ⟨xs.drop (k * sz) ++ junk, ha, ?_⟩
    rw [← List.append_assoc, List.take_append_drop]
    exact hB
theorem Wr.sv (h : Wr w e sz ad n xs) : Sv w ad n sz xs := by
  refine ⟨h.len, fun h0 => ?_, ?_⟩
  · rcases h.own with h1 | ⟨junk, ha, hB⟩
    · omega
    · rw [ha]; rfl
  · rcases h.own with h1 | ⟨junk, ha, hB⟩
    · have h2 := h.len
      rw [h1, Nat.zero_mul] at h2
      rw [List.eq_nil_of_length_eq_zero h2]
      exact Cs.nil _ _ _
    · have : ao ad = 0 := by rw [ha]; rfl
      rw [this]
      exact hB.run (xs := []) rfl
theorem Wr.ssn {xs : List α} (h : Wr w e sz ad n (xs.flatMap enc)) (hn : n = xs.length) : Ss w ad enc sz xs := by
  subst hn; exact h.sv
theorem Wr.ext {w' : World} (h : Wr w e sz ad n xs) (x : Ext S w w') (hb : ∀ k, Own ad k → ¬ S k) : Wr w' e sz ad n xs := by
  refine ⟨h.len, ?_⟩
  rcases h.own with h1 | ⟨junk, ha, hB⟩
  · exact .inl h1
  · exact .inr ⟨junk, ha, hB.ext x (hb _ (by rw [ha]; rfl))⟩
theorem Hp.rowN {b : Nat} {cs : List Value} (H : Hp w0 S w hl) (sz n : Nat) (i : Nat) (h : cget hl i = some (cB b cs e)) (hn : cs.length = n * sz) (hm : n ≤ maxLen) (hs : cset hl i (cR e sz (some ⟨b, 0, none⟩) n n cs) = some l') : Hp w0 S w l' :=
  H.eff (d := cR e sz (some ⟨b, 0, none⟩) n n cs) i h (Ext.refl _ _) (Row.ck (Blk.rowN sz (H.blk i h) hn hm)) (fun k hk => by
    have hk' : k = b := by rw [show (cR e sz (some ⟨b, 0, none⟩) n n cs).1 = One b from Own.one] at hk; exact hk
    exact ⟨(H.own _ (mem_of_cget h) k hk').1, .inl hk'⟩) hs
theorem Hp.weak (H : Hp w0 S w hl) (i : Nat) (h : cget hl i = some (cR e sz ad n c xs)) (k : Nat) (hk : k ≤ n) (hs : cset hl i (cW e sz ad k (xs.take (k * sz))) = some l') : Hp w0 S w l' :=
  H.turn (F := Own ad) (p := fun w => Row w e sz ad n c xs) (q := fun w => Wr w e sz ad k (xs.take (k * sz))) i h (fun w h => h.wr hk) hs
theorem Hp.wr (H : Hp w0 S w hl) (i : Nat) (h : cget hl i = some (cW e sz ad n xs)) : Wr w e sz ad n xs := (H.ck _ (mem_of_cget h)).now
end
end Go.Sx
