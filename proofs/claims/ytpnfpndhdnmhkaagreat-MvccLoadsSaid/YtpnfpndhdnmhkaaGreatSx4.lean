/- Maps that are ranged over: block b is the map as it stands (m0), block r an iterator over it; what is still to come is told as a list. -/
import Derived.Test.YtpnfpndhdnmhkaaGreatSx3
import Derived.Maps.Range
set_option linter.unusedSimpArgs false
set_option linter.unusedVariables false
namespace Go.Sx
open Go.Maps (Keyed)
structure It {K α : Type} [DecidableEq K] (P : Program) (k : TypeId) (lit : K → Lit) (lt : K → K → Prop) (κ : α → K) (en : α → Value) (b r : Nat) (m0 : Obj) (L R : List α) (w : World) : Prop where
  lt_ : r < w.heap.size
  run : ∃ left cnt, (∀ x ∈ L, left (lit (κ x)) = true ↔ x ∈ R) ∧ ∀ w1 : World, w1.heap[b]? = some m0 → w1.heap[r]? = w.heap[r]? → w1.ranges P k hR b r L.length (tab (fun x => lit (κ x)) en L) left cnt
  sub : ∀ x ∈ R, x ∈ L
  srt : SrtK lt κ R
def EnI (P : Program) (b r : Nat) (m0 : Obj) (v : Value) (w : World) : Prop := r < w.heap.size ∧ ∃ key, ∀ w1 : World, w1.heap[b]? = some m0 → w1.heap[r]? = w.heap[r]? → (Instr.entry (.pointer (some ⟨r, 0, none⟩))).run P w1 = .ok (.tuple #[key, v]) w1
section
variable {K α : Type} [DecidableEq K] {P : Program} {k t e : TypeId} {lit : K → Lit} {lt : K → K → Prop} {κ : α → K} {en : α → Value} {w w' w0 : World} {b r cnt : Nat} {m0 : Obj} {L R : List α} {S : Nat → Prop} {n : Nat} {l : List (Nat × Value)} {a : Act} {o : Oper} {x : Operand} {v : Value} {hl l' : List Chunk}
theorem It.same (h : It P k lit lt κ en b r m0 L R w) (hr : w'.heap[r]? = w.heap[r]?) : It P k lit lt κ en b r m0 L R w' := by
  obtain ⟨hlt, ⟨left, cnt, hl, hrun⟩, hs, ht⟩ := h
  refine ⟨?_, ⟨left, cnt, hl, fun w1 h1 h2 => hrun w1 h1 (h2.trans hr)⟩, hs, ht⟩
  rw [Array.getElem?_eq_getElem hlt] at hr
  exact (Array.getElem?_eq_some_iff.1 hr).1
theorem EnI.same (h : EnI P b r m0 v w) (hr : w'.heap[r]? = w.heap[r]?) : EnI P b r m0 v w' := by
  obtain ⟨hlt, key, hrun⟩ := h
  refine ⟨?_, key, fun w1 h1 h2 => hrun w1 h1 (h2.trans hr)⟩
  rw [Array.getElem?_eq_getElem hlt] at hr
  exact (Array.getElem?_eq_some_iff.1 hr).1
@[reducible] def cI (P : Program) (k : TypeId) (lit : K → Lit) (lt : K → K → Prop) (κ : α → K) (en : α → Value) (b r : Nat) (m0 : Obj) (L R : List α) : Chunk := (One r, It P k lit lt κ en b r m0 L R)
@[reducible] def cE (P : Program) (k : TypeId) (lit : K → Lit) (lt : K → K → Prop) (κ : α → K) (en : α → Value) (b r : Nat) (m0 : Obj) (L R : List α) (v : Value) : Chunk := (One r, fun w => It P k lit lt κ en b r m0 L R w ∧ EnI P b r m0 v w)
theorem It.ck (h : It P k lit lt κ en b r m0 L R w) : Ck (One r) (It P k lit lt κ en b r m0 L R) w := fun w' x => h.same (x.block r h.lt_ fun hn => hn rfl)
theorem EnI.ck (hi : It P k lit lt κ en b r m0 L R w) (h : EnI P b r m0 v w) : Ck (One r) (fun w => It P k lit lt κ en b r m0 L R w ∧ EnI P b r m0 v w) w := fun w' x =>
  have hb := x.block r hi.lt_ fun hn => hn rfl
  ⟨hi.same hb, h.same hb⟩
theorem Mp.obj {D : DataW Value} (h : Mp P k w b D) : ∃ m0, w.heap[b]? = some m0 := ⟨_, Array.getElem?_eq_getElem h.lt⟩
theorem x_range (O : KO lit lt) (hT : Sl n l a) (hop : o.op = .range t x) (ht : P.underlying t = some (.map k e)) (K9 : Keyed P k) (hx : opnd l x = some (.map (some b)))
    (h : Mp P k w b (tab (fun x => lit (κ x)) en L)) (hm : w.heap[b]? = some m0) (hs : SrtK lt κ L) :
    ∃ v w', (execOp a.eval o).run P w = .ok (.value v) w' ∧ ∃ r, v = .pointer (some ⟨r, 0, none⟩) ∧ r = w.heap.size ∧ w'.heap.size = r + 1 ∧ Ext No w w' ∧ It P k lit lt κ en b r m0 L L w' := by
  have hz : Maps.size (tab (fun x => lit (κ x)) en L) = L.length := size_tab L
  have hlt := h.lt
  have h : w.ownsMap P k hR b (Maps.size (tab (fun x => lit (κ x)) en L)) (tab (fun x => lit (κ x)) en L) := h
  rw [hz] at h
  obtain ⟨w', hrun, hrg, hg, hsz⟩ := World.ownsMap.range h K9 ht
  refine ⟨_, w', by simp [execOp, hop, hT.eval hx, hrun], w.heap.size, rfl, rfl, hsz, (Ext.of_grown hg (run_drawn P _ _ _ _ hrun)).mono (fun i _ hi => by cases hi), ?_, ⟨Maps.has (tab (fun x => lit (κ x)) en L), Maps.size (tab (fun x => lit (κ x)) en L), fun y hy => ?_, fun w1 h1 h2 => ?_⟩, fun y hy => hy, hs⟩
  · rw [hsz]; exact Nat.lt_succ_self _
  · rw [hasK]
    show (gtK lit κ L (κ y)).isSome = true ↔ _
    rw [O.get_mem hs hy]
    exact ⟨fun _ => hy, fun _ => rfl⟩
  · obtain ⟨es, clock, since, seen, c0, r1, r2, r3, r4, r5, r6⟩ := hrg
    have hb9 : w'.heap[b]? = w.heap[b]? := hg.block b hlt (by simp)
    have e1 : m0 = .map es clock := Option.some.inj ((hm.symm.trans hb9.symm).trans r1)
    exact ⟨es, clock, since, seen, c0, by rw [h1, e1], r2, r3, r4, h2.trans r5, r6⟩
theorem x_next (O : KO lit lt) (hT : Sl n l a) (hop : o.op = .next x false) (K9 : Keyed P k) (hx : opnd l x = some (.pointer (some ⟨r, 0, none⟩)))
    (h : It P k lit lt κ en b r m0 L R w) (hm : w.heap[b]? = some m0) (hL : SrtK lt κ L) :
    ∃ v w', (execOp a.eval o).run P w = .ok (.value v) w' ∧ ((v = .tuple #[.bool false] ∧ Ext No w w' ∧ R = []) ∨
      ∃ y key, v = .tuple #[.bool true, key, en y] ∧ y ∈ R ∧ Ext (One r) w w' ∧ w'.heap.size = w.heap.size ∧ It P k lit lt κ en b r m0 L (dlK κ (κ y) R) w' ∧ EnI P b r m0 (en y) w') := by
  obtain ⟨hlt, ⟨left, cnt, hl, hrun⟩, hs, ht⟩ := h
  have hrg := hrun w hm rfl
  have hne := hrg.ne
  rcases hrg.next K9 o.type with ⟨h0, hl0, hrun0⟩ | ⟨key, v, kl, y, w', cnt', hkey, hlk, hv, hat, hr9, hrg9, hlt9, hg9, hsz9, hen9⟩
  · refine ⟨_, w, by simp [execOp, hop, hT.eval hx, hrun0], .inl ⟨rfl, Ext.refl _ _, ?_⟩⟩
    cases R with
    | nil => rfl
    | cons z R =>
      have := (hl z (hs z List.mem_cons_self)).2 List.mem_cons_self
      rw [hl0] at this
      cases this
  · have hb9 : w'.heap[b]? = some m0 := (hg9.block b (Array.getElem?_eq_some_iff.1 hm).1 (fun e => hne (Option.some.inj e).symm)).trans hm
    have hkl : ∃ z ∈ L, lit (κ z) = kl := by
      obtain ⟨es, clock, since, seen, c0, r1, r2, r3, r4, r5, r6, r7, r8, r9, r10⟩ := hrg
      obtain ⟨x9, hx9, hk9⟩ := r9 kl hlk
      have hmem : WideElems.rg P k hR x9 ∈ (es.toList.map (WideElems.rg P k hR)).foldr DataW.insert [] := mem_sorted.2 (List.mem_map.2 ⟨x9, hx9, rfl⟩)
      unfold tab at r4
      rw [← (DataW.map.inj r4)] at hmem
      obtain ⟨z, hz, hz2⟩ := List.mem_map.1 hmem
      exact ⟨z, hz, by rw [← hk9, ← hz2]⟩
    obtain ⟨z, hz, rfl⟩ := hkl
    have hzv : v = en z := by
      have h8 := hat (.held (.bool false))
      have h7 : y = (.held v, []) := (Option.some.inj hv).symm
      rw [h7] at h8
      have h6 := (lookK_yes (en := en) (O.get_mem hL hz) (.bool false)).1
      unfold atV at h6
      rw [h8] at h6
      exact h6
    subst hzv
    refine ⟨_, w', by simp [execOp, hop, hT.eval hx, hr9], .inr ⟨z, key, rfl, (hl z hz).1 hlk, ?_, hsz9, ⟨by rw [hsz9]; exact hlt, ⟨fun q => left q && !q.sameKey (lit (κ z)), cnt', fun y9 hy9 => ?_, fun w1 h1 h2 => ?_⟩, fun y9 hy9 => hs y9 (dlK_mem.1 hy9).1, dlK_srt ht⟩, by rw [hsz9]; exact hlt, key, fun w1 h1 h2 => ?_⟩⟩
    · exact (Ext.of_grown hg9 (run_drawn P _ _ _ _ hr9)).mono fun i _ hi => (Option.some.inj hi)
    · rw [Bool.and_eq_true, hl y9 hy9, dlK_mem, O.same]
      simp
    · obtain ⟨es, clock, since, seen, c0, r1, r2, r3, r4, r5, r6⟩ := hrg9
      exact ⟨es, clock, since, seen, c0, by rw [h1, ← hb9]; exact r1, r2, r3, r4, h2.trans r5, r6⟩
    · obtain ⟨es, clock, since, seen, c0, r1, r2, r3, r4, r5, r6⟩ := hrg9
      have h1' : w1.heap[b]? = some (.map es clock) := by rw [h1, ← hb9]; exact r1
      have h2' := h2.trans r5
      simp only [Instr.entry, getObj, Sem.run_bind, Sem.run, r1, r5, h1', h2', Result.andThen] at hen9 ⊢
      cases hbk : seen.back? with
      | none => simp only [hbk] at hen9; cases hen9
      | some stamp =>
        simp only [hbk, getObj, Sem.run_bind, Sem.run, r1, h1', Result.andThen] at hen9 ⊢
        by_cases hck : (clock != c0) = true
        · simp only [hck, if_true] at hen9
          cases hen9
        · simp only [if_neg hck] at hen9 ⊢
          cases hfd : Array.find? (fun x => x.born == stamp) es with
          | none => simp only [hfd] at hen9; cases hen9
          | some e9 =>
            simp only [hfd, Sem.run] at hen9 ⊢
            have h8 := (Result.ok.inj hen9).1
            rw [← h8]
            rfl
theorem x_entry (hT : Sl n l a) (hop : o.op = .entry x) (hx : opnd l x = some (.pointer (some ⟨r, 0, none⟩))) (h : EnI P b r m0 v w) (hm : w.heap[b]? = some m0) :
    ∃ v9 w', (execOp a.eval o).run P w = .ok (.value v9) w' ∧ ∃ key, v9 = .tuple #[key, v] ∧ Ext No w w' := by
  obtain ⟨hlt, key, hrun⟩ := h
  exact ⟨_, w, by simp [execOp, hop, hT.eval hx, hrun w hm rfl], key, rfl, Ext.refl _ _⟩
theorem dl_not (O : KO lit lt) {x q : α} (hs : SrtK lt κ L) (hx : x ∈ L) (hq : q ∈ L) (hR : q ∈ R) (hn : q ∉ dlK κ (κ x) R) : q = x := by
  by_cases h : κ q = κ x
  · have h1 := O.get_mem hs hq
    rw [h, O.get_mem hs hx] at h1
    exact (Option.some.inj h1).symm
  · exact absurd (dlK_mem.2 ⟨hR, h⟩) hn
theorem dl_lt {x : α} (hx : x ∈ R) : (dlK κ (κ x) R).length < R.length := by
  have h1 : (dlK κ (κ x) R).length ≤ R.length := List.length_filter_le _ _
  rcases Nat.lt_or_ge (dlK κ (κ x) R).length R.length with h | h
  · exact h
  · have h2 : dlK κ (κ x) R = R := List.filter_eq_self.2 (List.length_filter_eq_length_iff.1 (by unfold dlK at h1 h; omega))
    rw [← h2] at hx
    exact absurd rfl (dlK_mem.1 hx).2
theorem Hp.newI (H : Hp w0 S w hl) (hr : r = w.heap.size) (hz : w'.heap.size = r + 1) (E : Ext No w w') (I : It P k lit lt κ en b r m0 L R w') : Hp w0 S w' (cI P k lit lt κ en b r m0 L R :: hl) :=
  H.cons E I.ck fun i hi => by
    have h1 : i = r := hi
    omega
theorem Hp.it (H : Hp w0 S w hl) (i : Nat) (h : cget hl i = some (cI P k lit lt κ en b r m0 L R)) : It P k lit lt κ en b r m0 L R w := (H.ck _ (mem_of_cget h)).now
theorem Hp.ent (H : Hp w0 S w hl) (i : Nat) (h : cget hl i = some (cE P k lit lt κ en b r m0 L R v)) : EnI P b r m0 v w := ((H.ck _ (mem_of_cget h)).now).2
theorem Hp.setI {R' : List α} (H : Hp w0 S w hl) (i : Nat) (h : cget hl i = some (cI P k lit lt κ en b r m0 L R)) (E : Ext (One r) w w') (hz : w'.heap.size = w.heap.size) (I : It P k lit lt κ en b r m0 L R' w') (N : EnI P b r m0 v w')
    (hs : cset hl i (cE P k lit lt κ en b r m0 L R' v) = some l') : Hp w0 S w' l' :=
  H.eff (d := cE P k lit lt κ en b r m0 L R' v) i h E (EnI.ck I N) (fun j hj => by
    have hj' : j = r := hj
    exact ⟨by rw [hj']; exact I.lt_, .inl hj'⟩) hs
@[reducible] def cMo (P : Program) (k : TypeId) (b : Nat) (D : DataW Value) (m0 : Obj) : Chunk := (One b, fun w => Mp P k w b D ∧ w.heap[b]? = some m0)
theorem Hp.pin {D : DataW Value} (H : Hp w0 S w hl) (i : Nat) (h : cget hl i = some (cM P k b D)) : ∃ m0, ∀ l', cset hl i (cMo P k b D m0) = some l' → Hp w0 S w l' := by
  have hM := H.mp i h
  obtain ⟨m0, hm⟩ := hM.obj
  refine ⟨m0, fun l' hs => H.eff (d := cMo P k b D m0) i h (Ext.refl _ _) (fun w' x => ⟨hM.ext x fun hn => hn rfl, (x.block b hM.lt fun hn => hn rfl).trans hm⟩) (fun j hj => ⟨?_, .inl hj⟩) hs⟩
  have hj' : j = b := hj
  rw [hj']; exact hM.lt
theorem Hp.unpin {D : DataW Value} (H : Hp w0 S w hl) (i : Nat) (h : cget hl i = some (cMo P k b D m0)) (hs : cset hl i (cM P k b D) = some l') : Hp w0 S w l' := H.turn i h (fun w h => h.1) hs
theorem Hp.unE (H : Hp w0 S w hl) (i : Nat) (h : cget hl i = some (cE P k lit lt κ en b r m0 L R v)) (hs : cset hl i (cI P k lit lt κ en b r m0 L R) = some l') : Hp w0 S w l' :=
  H.turn i h (fun w h => h.1) hs
end
end Go.Sx
