/- Laws for what package slices does with a row: caps, three bounds, copy, clear, append of zeros, overlaps. -/
import Derived.Test.YtainemoobhkeiaaDoorSxG
import Derived.Lib.AppendZerosOnto
import Derived.Lib.Overlaps
set_option linter.unusedSimpArgs false
set_option linter.unusedVariables false
namespace Go.Sx

section
variable {w w' : World} {e : TypeId} {sz n c k q : Nat} {ad : Option Addr} {xs : List Value}
/-- further elements, up to the capacity -/
theorem Row.upto (h : Row w e sz ad n c xs) (h1 : n ≤ q) (h2 : q ≤ c) : ∃ ys, Row w e sz ad q c (xs ++ ys) := by
  rcases h.own with ⟨rfl, rfl, rfl⟩ | ⟨junk, ha, hB, hl, h3, h4⟩
  · obtain rfl : q = 0 := by omega
    exact ⟨[], by simpa using h⟩
  · have hle : n * sz ≤ q * sz := Nat.mul_le_mul_right _ h1
    have hle2 : q * sz ≤ c * sz := Nat.mul_le_mul_right _ h2
    have hxl := h.len
    rw [List.length_append, hxl] at hl
    refine ⟨junk.take (q * sz - n * sz), ?_, .inr ⟨junk.drop (q * sz - n * sz), ha, ?_, ?_, h2, h4⟩⟩
    · rw [List.length_append, List.length_take, hxl]; omega
    · rw [List.append_assoc, List.take_append_drop]; exact hB
    · rw [List.append_assoc, List.take_append_drop, List.length_append, hxl]; omega

theorem Row.nilcut {lo : Nat} (h : Row w e sz ad n c xs) (hc : cutAt ad sz lo c = none) : n - lo = 0 ∧ c - lo = 0 := by
  rcases h.own with ⟨rfl, rfl, rfl⟩ | ⟨junk, ha, -⟩
  · omega
  · unfold cutAt at hc
    split at hc
    · rw [ha] at hc; cases hc
    · rw [ha] at hc; cases hc
theorem Blk.sv1 {b : Nat} {vs : List Value} (h : Blk w b vs e) (hl : vs.length = sz) : Sv w (some ⟨b, 0, none⟩) 1 sz vs :=
  ⟨by rw [hl, Nat.one_mul], fun _ => rfl, h.cs_of fun j v hj => by simpa [ao] using hj⟩

/-- the row's own part of a cut -/
theorem Row.at_ (h : Row w e sz ad n c xs) (hc : 0 < c) : ∃ junk, ad = some ⟨ab ad, 0, none⟩ ∧ Blk w (ab ad) (xs ++ junk) e ∧ (xs ++ junk).length = c * sz := by
  rcases h.own with ⟨rfl, rfl, rfl⟩ | ⟨junk, ha, hB, hl, h3, h4⟩
  · omega
  · exact ⟨junk, ha, hB, hl⟩
theorem cutAt_row (ha : ad = some ⟨ab ad, 0, none⟩) (hk : k < c) : cutAt ad sz k c = some ⟨ab ad, k * sz, none⟩ := by
  unfold cutAt
  rw [if_neg (by omega)]
  conv => lhs; rw [ha]
  simp [add_addr]
end

section
variable {P : Program} {n : Nat} {l : List (Nat × Value)} {a : Act} {w : World} {o : Oper} {t e : TypeId} {x y : Operand} {v : Value}

theorem x_cap {ts : Array TypeId} {ad : Option Addr} {m c : Nat} (hT : Sl n l a) (hop : o.op = .call { callee := .builtin .cap, args := #[x], argTypes := ts }) (ht : ts = #[t]) (hu : P.underlying t = some (.slice e))
    (hx : opnd l x = some (.slice ad m c)) (w : World) : (execOp a.eval o).run P w = .ok (.value (.int .i64 c)) w := by
  subst ht
  simp [execOp, hop, resolve, invoke, builtin, Builtin.cap_, run_underlying hu, hT.eval hx, goInt]

theorem run_sliceAt_lhm {z : Value} {sz by_ m c lo hi mx : Nat} {ad : Option Addr} {p q r : Int} (hu : P.underlying t = some (.slice e)) (hti : TI P e z sz by_) (hp : p = (lo : Int)) (hq : q = (hi : Int)) (hr : r = (mx : Int)) (h1 : lo ≤ hi) (h2 : hi ≤ mx) (h3 : mx ≤ c) (w : World) :
    (Instr.sliceAt t (.slice ad m c) (some (.int .i64 p)) (some (.int .i64 q)) (some (.int .i64 r))).run P w = .ok (.slice (cutAt ad sz lo mx) (hi - lo) (mx - lo)) w := by
  subst hp; subst hq; subst hr
  simp [Instr.sliceAt, Instr.slice, run_underlying hu, Instr.sliceBounds, run_sliceBound, run_sizeOf hti, h1, h2, h3, cutAt]
theorem x_slice_lhm {lo hi mx : Operand} {z : Value} {sz by_ m c p q r : Nat} {ad : Option Addr} {ip iq ir : Int} (hT : Sl n l a) (hop : o.op = .slice t x (some lo) (some hi) (some mx)) (hu : P.underlying t = some (.slice e)) (hti : TI P e z sz by_) (hx : opnd l x = some (.slice ad m c))
    (hlo : opnd l lo = some (.int .i64 ip)) (hhi : opnd l hi = some (.int .i64 iq)) (hmx : opnd l mx = some (.int .i64 ir)) (hp : ip = (p : Int)) (hq : iq = (q : Int)) (hr : ir = (r : Int)) (h1 : p ≤ q) (h2 : q ≤ r) (h3 : r ≤ c) (w : World) : (execOp a.eval o).run P w = .ok (.value (.slice (cutAt ad sz p r) (q - p) (r - p))) w :=
  x_slice hT hop hx (by simp only [Option.map_some, hT.eval hlo, hT.eval hhi, hT.eval hmx]; exact run_sliceAt_lhm hu hti hp hq hr h1 h2 h3 w)

theorem run_firstCells {ad : Option Addr} {m c sz : Nat} {vs : List Value} (h : Sv w ad m sz vs) {k : Nat} (hk : k ≤ m) : (Builtin.firstCells sz k (.slice ad m c)).run P w = .ok (vs.take (k * sz)).toArray w := by
  rcases Nat.eq_zero_or_pos k with h0 | h0
  · subst h0
    cases ad <;> simp [Builtin.firstCells, loadCells, loadCellsFrom]
  · have hp := h.pos (by omega)
    have hlen : (vs.take (k * sz)).length = k * sz := by
      rw [List.length_take, h.len]
      have := Nat.mul_le_mul_right sz hk
      omega
    have := run_loadCells (P := P) (h.cs.take (k * sz))
    rw [hlen] at this
    conv => lhs; rw [hp]
    simp only [Builtin.firstCells]
    exact this

/-- copy into a row from its k-th element on -/
theorem run_copy {z : Value} {sz by_ m c k m2 c2 : Nat} {ty tS : TypeId} {ad ad2 : Option Addr} {xs news : List Value} (hu : P.underlying t = some (.slice e)) (hti : TI P e z sz by_) (hrow : Row w e sz ad m c xs) (hk : k ≤ m)
    (hs : Sv w ad2 m2 sz news) (h1 : ∀ u ∈ news.take (Nat.min m2 (m - k) * sz), u.oneCell' = true) :
    ∃ w', (Builtin.copy_ #[t, tS] ty #[.slice (cutAt ad sz k c) (m - k) (c - k), .slice ad2 m2 c2]).run P w = .ok (.int .i64 (Nat.min m2 (m - k) : Nat)) w' ∧
      Row w' e sz ad m c (xs.take (k * sz) ++ news.take (Nat.min m2 (m - k) * sz) ++ xs.drop ((k + Nat.min m2 (m - k)) * sz)) ∧ Ext (Own ad) w w' ∧ w'.heap.size = w.heap.size := by
  have hq1 : Nat.min m2 (m - k) ≤ m2 := Nat.min_le_left _ _
  have hq2 : Nat.min m2 (m - k) ≤ m - k := Nat.min_le_right _ _
  have hf := run_firstCells (P := P) (c := c2) hs hq1
  generalize hq : Nat.min m2 (m - k) = q at *
  have hnl : (news.take (q * sz)).length = q * sz := by
    rw [List.length_take, hs.len]
    have := Nat.mul_le_mul_right sz hq1
    omega
  have hxl := hrow.len
  have hm1 : (k + q) * sz ≤ m * sz := Nat.mul_le_mul_right _ (by omega)
  have hm2 : (k + q) * sz = k * sz + q * sz := Nat.add_mul ..
  rcases Nat.eq_zero_or_pos q with h0 | h0
  · subst h0
    refine ⟨w, ?_, ?_, Ext.refl _ _, rfl⟩
    · cases hc : cutAt ad sz k c <;> simp [Builtin.copy_, run_underlying hu, Builtin.lenOf, run_sizeOf hti, hq, hf, storeCells, goInt]
    · simpa [List.take_append_drop] using hrow
  · have hkc : k < c := by have := hrow.le.1; omega
    obtain ⟨junk, ha, hB, hl⟩ := hrow.at_ (by omega)
    obtain ⟨w', hr, hB', hE, hsz⟩ := run_storeCells (P := P) (off := k * sz) (cs := news.take (q * sz)) hB (by rw [hl, hnl, ← Nat.add_mul]; have := hrow.le.1; exact Nat.mul_le_mul_right _ (by omega)) h1
    refine ⟨w', ?_, ⟨?_, .inr ⟨junk, ha, ?_, ?_, hrow.le⟩⟩, ?_, hsz⟩
    · rw [cutAt_row ha hkc]
      simp [Builtin.copy_, run_underlying hu, Builtin.lenOf, run_sizeOf hti, hq, hf, hr, goInt]
    · simp only [List.length_append, List.length_drop, List.length_take, hnl]
      simp only [List.length_take] at hnl
      omega
    · rw [hnl, ← Nat.add_mul] at hB'
      rw [List.take_append_of_le_length (by omega), List.drop_append_of_le_length (by omega)] at hB'
      simpa using hB'
    · rw [← hl]
      simp only [List.length_append, List.length_drop, List.length_take]
      simp only [List.length_take] at hnl
      omega
    · rw [ha, Own.one]; exact hE

theorem x_copy {z : Value} {sz by_ m c k m2 c2 p q : Nat} {tS : TypeId} {ts : Array TypeId} {ad ad2 ad3 : Option Addr} {xs news : List Value} (hT : Sl n l a) (hop : o.op = .call { callee := .builtin .copy, args := #[x, y], argTypes := ts }) (hts : ts = #[t, tS])
    (hu : P.underlying t = some (.slice e)) (hti : TI P e z sz by_) (hx : opnd l x = some (.slice ad3 p q)) (hy : opnd l y = some (.slice ad2 m2 c2)) (h3 : ad3 = cutAt ad sz k c) (hp : p = m - k) (hq : q = c - k)
    (hrow : Row w e sz ad m c xs) (hk : k ≤ m) (hs : Sv w ad2 m2 sz news) (h1 : ∀ u ∈ news.take (Nat.min m2 (m - k) * sz), u.oneCell' = true) :
    ∃ r w', (execOp a.eval o).run P w = .ok (.value r) w' ∧ r = .int .i64 (Nat.min m2 (m - k) : Nat) ∧
      Row w' e sz ad m c (xs.take (k * sz) ++ news.take (Nat.min m2 (m - k) * sz) ++ xs.drop ((k + Nat.min m2 (m - k)) * sz)) ∧ Ext (Own ad) w w' ∧ w'.heap.size = w.heap.size := by
  subst hts; subst h3; subst hp; subst hq
  obtain ⟨w', hr, hR⟩ := run_copy (P := P) (ty := o.type) (tS := tS) (c2 := c2) hu hti hrow hk hs h1
  exact ⟨_, w', by simp [execOp, hop, resolve, invoke, builtin, hT.eval hx, hT.eval hy, hr], rfl, hR⟩

theorem zeroCells_one {z : Value} {sz k : Nat} (hz : z.cells.size = sz) (h1 : ∀ u ∈ z.cells.toList, u.oneCell' = true) : ∀ u ∈ (Builtin.zeroCells z.cells k).toList, u.oneCell' = true := by
  intro u hu
  simp only [Builtin.zeroCells, Array.toList_map, List.mem_map, Array.mem_toList_iff, Array.mem_range] at hu
  obtain ⟨i, hi, rfl⟩ := hu
  have hpos : 0 < z.cells.size := by
    rcases Nat.eq_zero_or_pos z.cells.size with h | h
    · rw [h] at hi; omega
    · exact h
  have hlt : i % z.cells.size < z.cells.size := Nat.mod_lt _ hpos
  rw [getElem!_pos z.cells _ hlt]
  exact h1 _ (by simp)

/-- clear of what lies behind a row's elements -/
theorem run_clear {z : Value} {sz by_ m c k : Nat} {ty : TypeId} {ad : Option Addr} {xs : List Value} (hu : P.underlying t = some (.slice e)) (hti : TI P e z sz by_) (hz : z.cells.size = sz) (hz1 : ∀ u ∈ z.cells.toList, u.oneCell' = true)
    (hrow : Row w e sz ad m c xs) (hk : m + k ≤ c) :
    ∃ w', (Builtin.clear_ #[t] ty #[.slice (cutAt ad sz m c) k (c - m)]).run P w = .ok (.tuple #[]) w' ∧ Row w' e sz ad m c xs ∧ Ext (Own ad) w w' ∧ w'.heap.size = w.heap.size := by
  rcases Nat.eq_zero_or_pos k with h0 | h0
  · subst h0
    exact ⟨w, by cases hc : cutAt ad sz m c <;> simp [Builtin.clear_, run_underlying hu], hrow, Ext.refl _ _, rfl⟩
  · obtain ⟨junk, ha, hB, hl⟩ := hrow.at_ (by omega)
    have hxl := hrow.len
    have hzl : (Builtin.zeroCells z.cells k).toList.length = k * sz := by simp [Builtin.zeroCells, hz]
    have hmc : m * sz + k * sz ≤ c * sz := by rw [← Nat.add_mul]; exact Nat.mul_le_mul_right _ hk
    obtain ⟨w', hr, hB', hE, hsz⟩ := run_storeCells (P := P) (off := m * sz) (cs := (Builtin.zeroCells z.cells k).toList) hB (by rw [hl, hzl]; exact hmc) (zeroCells_one hz hz1)
    refine ⟨w', ?_, ⟨hxl, .inr ⟨(Builtin.zeroCells z.cells k).toList ++ (xs ++ junk).drop (m * sz + k * sz), ha, ?_, ?_, hrow.le⟩⟩, by rw [ha, Own.one]; exact hE, hsz⟩
    · rw [cutAt_row ha (by omega)]
      cases k with
      | zero => omega
      | succ k => simp [Builtin.clear_, run_underlying hu, run_zeroValue hti, hr]
    · rw [hzl, List.take_append_of_le_length (by omega), List.take_of_length_le (by omega)] at hB'
      simpa using hB'
    · rw [List.length_append] at hl
      simp only [List.length_append, List.length_drop, hzl, hxl]
      omega

theorem st_clear {ops : Array Oper} {Q : Exit → Act → World → Prop} {H : World → Prop} {s : List (Nat × How)} {i : Nat} {z : Value} {sz by_ m c k q : Nat} {ts : Array TypeId} {ad ad3 : Option Addr} {xs : List Value} (hT : Sl n l a) (ho : ops[i]? = some o) (hd : o.dst = none) (hw : wantedIn ops l o.guard = some true)
    (hop : o.op = .call { callee := .builtin .clear, args := #[x], argTypes := ts }) (hts : ts = #[t]) (hu : P.underlying t = some (.slice e)) (hti : TI P e z sz by_) (hz : z.cells.size = sz) (hz1 : ∀ u ∈ z.cells.toList, u.oneCell' = true)
    (hx : opnd l x = some (.slice ad3 k q)) (h3 : ad3 = cutAt ad sz m c) (hq : q = c - m) (hrow : Row w e sz ad m c xs) (hk : m + k ≤ c)
    (K : ∀ w', Row w' e sz ad m c xs → Ext (Own ad) w w' → w'.heap.size = w.heap.size → Ser P ops Q H s a w') : Ser P ops Q H ((i, .run) :: s) a w := by
  subst hts; subst h3; subst hq
  obtain ⟨w', hr, h1, h2, h4⟩ := run_clear (P := P) (ty := o.type) hu hti hz hz1 hrow hk
  show wpOp P ops Q i (Ser P ops Q H s) a w
  have hv : (execOp a.eval o).run P w = .ok (.value (.tuple #[])) w' := by simp [execOp, hop, resolve, invoke, builtin, hT.eval hx, hr]
  simp only [wpOp, ho, hT.wanted hw, if_true, Oper.wp, hv, Oper.upon, hd]
  exact .inl (K w' h1 h2 h4)

/-- append of zeros that does not fit -/
theorem x_append_zeros {z : Value} {sz by_ m c k : Nat} {tn : TypeId} {ts : Array TypeId} {ad : Option Addr} {xs : List Value} {i : Int} (hT : Sl n l a) (hop : o.op = .call { callee := .builtin .append, args := #[x, y], argTypes := ts }) (hts : ts = #[t, tn])
    (hu : P.underlying t = some (.slice e)) {kn : IntKind} (hun : P.underlying tn = some (.int kn)) (hti : TI P e z sz by_) (hz : z.cells.size = sz) (hsz : 0 < sz) (hx : opnd l x = some (.slice ad m c)) (hy : opnd l y = some (.int .i64 i)) (hi : i = (k : Int))
    (hrow : Row w e sz ad m c xs) (h0 : 0 < k) (hg : c < m + k) (h63 : m + k ≤ maxLen) (hby : (m + k) * by_ ≤ 140737488355328) :
    ∃ r w', (execOp a.eval o).run P w = .ok (.value r) w' ∧ ∃ b c', r = .slice (some ⟨b, 0, none⟩) (m + k) c' ∧ w.heap.size ≤ b ∧ Row w' e sz (some ⟨b, 0, none⟩) (m + k) c' (xs ++ (Builtin.zeroCells z.cells k).toList) ∧ Ext No w w' := by
  subst hts; subst hi
  obtain ⟨i, hi, hiz, his, hib⟩ := hti.ti
  have hsmall : m + k ≤ 9223372036854775807 := by simp only [maxLen] at h63; omega
  have hf := run_firstCells (P := P) (c := c) (hrow.sv.ext_no (Ext.drew w)) (Nat.le_refl m)
  rw [List.take_of_length_le (by rw [hrow.len]; exact Nat.le_refl _)] at hf
  have hk48 : k * by_ ≤ 281474976710656 := by
    have : k * by_ ≤ (m + k) * by_ := Nat.mul_le_mul_right _ (by omega)
    omega
  have hr := Lib.run_append_grow_zeros (P := P) w t tn o.type e i z .i64 kn hu hun hi hiz ad m c xs (by rw [his]; exact hf) k h0 (by omega) hg (by omega) (by rw [hib]; exact hk48) (growslice_fits hg (by rw [hib]; exact hby))
  have hge := grownCap_ge w (m + k) c e
  have hcm := grownCap_le_maxLen w (m + k) c e h63
  refine ⟨_, w.drew.alloc (.cells (xs.toArray ++ Builtin.zeroCells z.cells k ++ Builtin.zeroCells z.cells (grownCap w (m + k) c e - (m + k))) e), by simp [execOp, hop, resolve, invoke, builtin, hT.eval hx, hT.eval hy, hr], _, _, rfl, Nat.le_refl _, ⟨?_, .inr ⟨(Builtin.zeroCells z.cells (grownCap w (m + k) c e - (m + k))).toList, rfl, ?_, ?_, hge, hcm⟩⟩, ?_⟩
  · simp [Builtin.zeroCells, hz, hrow.len, Nat.add_mul]
  · show (w.drew.alloc _).heap[w.heap.size]? = _
    have := heap_alloc_new w.drew (.cells (xs.toArray ++ Builtin.zeroCells z.cells k ++ Builtin.zeroCells z.cells (grownCap w (m + k) c e - (m + k))) e)
    rw [show w.drew.heap.size = w.heap.size from rfl] at this
    rw [this]
    congr 2
    apply Array.toList_inj.1
    simp
  · simp only [List.length_append, Array.length_toList, size_zeroCells, hz, hrow.len]
    rw [← Nat.add_mul, ← Nat.add_mul]
    congr 1
    omega
  · exact (Ext.drew w).step (Ext.alloc _ _)

/-- overlaps: slices in two blocks -/
theorem run_overlaps {f : FuncId} {fn : Func} {tS tR : TypeId} {z : Value} {sz by_ b q m1 c1 m c : Nat} {ad2 : Option Addr} {cs ys : List Value} (hf : P.funcs[f]? = some fn) (hname : (fn.name == "runtime.NumGoroutine") = false) (hbody : fn.body = none)
    (hn : Extern.findNext fn = none) (he : Extern.find fn = some (Extern.SlicesOverlaps.overlaps #[tS, tS] #[tR])) (ht : P.underlying tS = some (.slice e)) (hti : TI P e z sz by_)
    (hA : Blk w b cs e) (hB : Blk w q ys e) (hne : b ≠ q) (hy : ys ≠ []) (h2 : ∃ o, ad2 = some ⟨q, o, none⟩) :
    (callFunc f #[.slice (some ⟨b, 0, none⟩) m1 c1, .slice ad2 m c]).run P w = .ok (.value (.bool false)) w := by
  have key : (Extern.SlicesOverlaps.overlaps #[tS, tS] #[tR] #[.slice (some ⟨b, 0, none⟩) m1 c1, .slice ad2 m c]).run P w = .ok (.bool false) w := by
    obtain ⟨o, rfl⟩ := h2
    · unfold Blk at hA hB
      refine Lib.run_overlaps_apart w tS tR e ht sz (fun w => run_sizeOf hti w) ⟨b, 0, none⟩ ⟨q, o, none⟩ m1 c1 m c hne e e cs.length ys.length ?_ ?_ ?_ ?_ ?_
      · simp [World.shape?, hA]
      · simp [World.shape?, hB]
      · simpa using hy
      · simp [World.frozen?, hA]
      · simp [World.frozen?, hA]
  have hn' : ¬ fn.name = "runtime.NumGoroutine" := by simpa using hname
  simp [callFunc, program, Sem.run, hf, hn', hbody, mark, hn, he, key]

theorem x_callext {f : FuncId} {xs : List Operand} {ts : Array TypeId} {vs : List Value} (hT : Sl n l a) (hop : o.op = .call { callee := .value (.func f), args := xs.toArray, argTypes := ts }) (hx : opnds l xs = some vs)
    (hr : (callFunc f vs.toArray).run P w = .ok (.value v) w) : (execOp a.eval o).run P w = .ok (.value v) w := by
  simp [execOp, hop, resolve, Deferred.ofValue, invoke, Act.eval, hT.evals hx, hr]
end

/-! ### lists: one element laid in -/
theorem ins_grow {α : Type} {A vs B Z : List α} {p q b : Nat} (hA : A.length = p) (hv : vs.length = q) (hB : B.length = b) (hZ : Z.length = q + b) :
    ((A ++ Z).take p ++ vs ++ (A ++ Z).drop (p + q)).take (p + q) ++ B ++ ((A ++ Z).take p ++ vs ++ (A ++ Z).drop (p + q)).drop (p + q + b) = A ++ vs ++ B := by
  subst hA; subst hv; subst hB
  have e1 : (A ++ Z).take A.length = A := List.take_left
  have e2 : (A ++ Z).drop (A.length + vs.length) = Z.drop vs.length := by rw [List.drop_append]; simp
  rw [e1, e2]
  have e3 : (A ++ vs ++ Z.drop vs.length).take (A.length + vs.length) = A ++ vs := by rw [← List.length_append]; exact List.take_left
  have e4 : (A ++ vs ++ Z.drop vs.length).drop (A.length + vs.length + B.length) = [] := by
    apply List.drop_eq_nil_of_le
    simp; omega
  rw [e3, e4, List.append_nil]

theorem ins_room {α : Type} {A vs B ys : List α} {p q b : Nat} (hA : A.length = p) (hv : vs.length = q) (hB : B.length = b) (hy : ys.length = q) :
    (((A ++ B ++ ys).take (p + q) ++ ((A ++ B ++ ys).drop p).take b ++ (A ++ B ++ ys).drop (p + q + b)).take p) ++ vs ++ (((A ++ B ++ ys).take (p + q) ++ ((A ++ B ++ ys).drop p).take b ++ (A ++ B ++ ys).drop (p + q + b)).drop (p + q)) = A ++ vs ++ B := by
  subst hA; subst hv; subst hB
  have e1 : ((A ++ B ++ ys).drop A.length).take B.length = B := by rw [List.append_assoc, List.drop_left, List.take_left]
  have e2 : (A ++ B ++ ys).drop (A.length + vs.length + B.length) = [] := by apply List.drop_eq_nil_of_le; simp; omega
  rw [e1, e2, List.append_nil]
  have e3 : ((A ++ B ++ ys).take (A.length + vs.length)).length = A.length + vs.length := by rw [List.length_take]; simp; omega
  have e4 : ((A ++ B ++ ys).take (A.length + vs.length) ++ B).drop (A.length + vs.length) = B := by
    have e6 : ∀ (T : List α) (k : Nat), T.length = k → (T ++ B).drop k = B := fun T k h => by subst h; exact List.drop_left
    exact e6 _ _ e3
  have e5 : ((A ++ B ++ ys).take (A.length + vs.length) ++ B).take A.length = A := by
    rw [List.take_append_of_le_length (by omega), List.take_take, Nat.min_eq_left (by omega), List.append_assoc, List.take_left]
  rw [e4, e5]
end Go.Sx
