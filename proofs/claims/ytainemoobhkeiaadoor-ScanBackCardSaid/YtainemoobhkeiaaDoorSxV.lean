/- Maps of one's own: the kit's word ownsMap, at elements that read as themselves. -/
import Derived.Test.YtainemoobhkeiaaDoorSxQ
import Derived.Maps.OwnSet
import Derived.Maps.Ext
import Derived.Lib.SlKeysI
set_option linter.unusedSimpArgs false
set_option linter.unusedVariables false
namespace Go.Sx
open Go.Maps (Keyed)
open Go.ChangeMaps (setBlock heap_setBlock_same heap_setBlock_other)

/-- an element reads as itself -/
def hR (v : Value) : Option (DataW Value × List MemPlace) := some (.held v, [])
/-- what stands at a key -/
def atV (D : DataW Value) (kl : Lit) (z : Value) : Value := match D.atKey kl (.held z) with
  | .held v => v
  | _ => z
/-- block b is a map, which reads as D -/
def Mp (P : Program) (k : TypeId) (w : World) (b : Nat) (D : DataW Value) : Prop := w.ownsMap P k hR b (Maps.size D) D
@[reducible] def cM (P : Program) (k : TypeId) (b : Nat) (D : DataW Value) : Chunk := (One b, fun w => Mp P k w b D)

theorem wf64 {i : Int} (h : -9223372036854775808 ≤ i) (h1 : i ≤ 9223372036854775807) : (Lit.int .i64 i).wf = true := by
  have e1 : IntKind.i64.min = -9223372036854775808 := rfl
  have e2 : IntKind.i64.max = 9223372036854775807 := rfl
  simp [Lit.wf, e1, e2]
  omega
section
variable {P : Program} {k t e : TypeId} {w w' w0 : World} {b : Nat} {D : DataW Value} {S : Nat → Prop} {n : Nat} {l : List (Nat × Value)} {a : Act} {o : Oper} {x y z : Operand} {v key : Value} {kl : Lit} {hl l' : List Chunk}
theorem Mp.lt (h : Mp P k w b D) : b < w.heap.size := World.ownsMap.lt h
theorem Mp.ext (h : Mp P k w b D) (x : Ext S w w') (hb : ¬ S b) : Mp P k w' b D := by
  have hlt := h.lt
  obtain ⟨es, clock, hB, F, hs, hD⟩ := h
  exact ⟨es, clock, (x.block b hlt hb).trans hB, F, hs, hD⟩
theorem Mp.ck (h : Mp P k w b D) : Ck (One b) (fun w => Mp P k w b D) w := fun w' x => h.ext x fun hn => hn rfl
theorem Mp.of {m : Nat} (h : w.ownsMap P k hR b m D) : Mp P k w b D := by
  obtain ⟨es, clock, hB, F, hs, rfl⟩ := h
  refine ⟨es, clock, hB, F, ?_, rfl⟩
  have e1 : es.size = ((es.toList.map (WideElems.rg P k hR)).foldr DataW.insert []).length := by rw [length_sorted]; simp
  exact Nat.le_of_eq e1

structure NewM (P : Program) (k : TypeId) (w : World) (b : Nat) (w' : World) : Prop where
  at_ : b = w.heap.size
  ext : Ext No w w'
  mp : Mp P k w' b (.map [])
  size : w'.heap.size = b + 1
theorem x_makeMap (k : TypeId) (hT : Sl n l a) (hop : o.op = .makeMap t none) (w : World) :
    ∃ r w', (execOp a.eval o).run P w = .ok (.value r) w' ∧ ∃ b, r = .map (some b) ∧ NewM P k w b w' := by
  have _ := hT
  have h1 : (Instr.makeMap t none).run P w = .ok (.map (some w.heap.size)) (w.alloc (.map #[] 0)) := rfl
  refine ⟨_, w.alloc (.map #[] 0), by simp [execOp, hop, h1], w.heap.size, rfl, rfl, Ext.alloc w _, World.ownsMap_made w P k hR, by simp⟩

theorem look_at (h : Mp P k w b D) (K : Keyed P k) (ht : P.underlying t = some (.map k e)) {zv : Value} {sz by_ : Nat} (hti : TI P e zv sz by_) (hkey : keyOf P k key = some kl) (c : Bool) :
    (Instr.lookup t (.map (some b)) key c).run P w = .ok (if c then .tuple #[atV D kl zv, .bool (Maps.has D kl)] else atV D kl zv) w := by
  obtain ⟨es, clock, hb, F, _, rfl⟩ := h
  rcases Maps.fit_look c K ht (run_zeroValue hti w) hb F hkey with ⟨hrun, _, hat⟩ | ⟨e0, y, _, _, hrun, hRv, hat, _⟩
  · have h1 := Maps.has_false_of_atKey hat
    have h2 : atV (.map ((es.toList.map (WideElems.rg P k hR)).foldr DataW.insert [])) kl zv = zv := by unfold atV; rw [hat]
    rw [hrun, h1, h2]
  · have h1 := Maps.has_true_of_atKey hat
    have hy : y = (.held e0.val, []) := (Option.some.inj hRv).symm
    have h2 : atV (.map ((es.toList.map (WideElems.rg P k hR)).foldr DataW.insert [])) kl zv = e0.val := by unfold atV; rw [hat, hy]
    rw [hrun, h1, h2]
theorem x_lookup {zv : Value} {sz by_ : Nat} (hT : Sl n l a) (hop : o.op = .lookup t x y false) (ht : P.underlying t = some (.map k e)) (K : Keyed P k) (hti : TI P e zv sz by_)
    (hx : opnd l x = some (.map (some b))) (hy : opnd l y = some key) (hkey : keyOf P k key = some kl) (h : Mp P k w b D) :
    (execOp a.eval o).run P w = .ok (.value (atV D kl zv)) w := by
  have := look_at h K ht hti hkey false
  simp [execOp, hop, hT.eval hx, hT.eval hy, this]
theorem x_lookupOk {zv : Value} {sz by_ : Nat} (hT : Sl n l a) (hop : o.op = .lookup t x y true) (ht : P.underlying t = some (.map k e)) (K : Keyed P k) (hti : TI P e zv sz by_)
    (hx : opnd l x = some (.map (some b))) (hy : opnd l y = some key) (hkey : keyOf P k key = some kl) (h : Mp P k w b D) :
    (execOp a.eval o).run P w = .ok (.value (.tuple #[atV D kl zv, .bool (Maps.has D kl)])) w := by
  have := look_at h K ht hti hkey true
  simp [execOp, hop, hT.eval hx, hT.eval hy, this]

theorem x_mapUpdate (hT : Sl n l a) (hop : o.op = .mapUpdate t x y z) (ht : P.underlying t = some (.map k e)) (K : Keyed P k)
    (hx : opnd l x = some (.map (some b))) (hy : opnd l y = some key) (hz : opnd l z = some v) (hkey : keyOf P k key = some kl) (h : Mp P k w b D) (hm : Maps.size D < maxLen) :
    ∃ w', (execOp a.eval o).run P w = .ok .skip w' ∧ Mp P k w' b (D.put kl (.held v)) ∧ Ext (One b) w w' ∧ w'.heap.size = w.heap.size := by
  obtain ⟨es, clock, hb, F, hs, rfl⟩ := h
  obtain ⟨es', clock', hrun, F', hput, _⟩ := Maps.fit_store (R' := hR) (val := v) K ht hb F (Nat.lt_of_le_of_lt hs hm) (fun _ _ _ _ hz => hz) hkey rfl
  obtain ⟨w1, hrun1, hown, hg⟩ := World.ownsMap.update (R := hR) (val := v) ⟨es, clock, hb, F, hs, rfl⟩ K ht hm hkey rfl
  have e1 : w1 = setBlock w b (.map es' clock') := by
    have := hrun1.symm.trans hrun
    simpa using this
  subst e1
  refine ⟨_, by simp [execOp, hop, hT.eval hx, hT.eval hy, hT.eval hz, hrun], Mp.of hown, ?_, by simp [setBlock]⟩
  exact (Ext.of_grown hg (run_drawn P _ _ _ _ hrun)).mono fun i _ hi => Option.some.inj hi

theorem x_delete {ts : Array TypeId} (hT : Sl n l a) (hop : o.op = .call { callee := .builtin .delete, args := #[x, y], argTypes := ts }) (hts : ts = #[t, k]) (ht : P.underlying t = some (.map k e)) (K : Keyed P k)
    (hx : opnd l x = some (.map (some b))) (hy : opnd l y = some key) (hkey : keyOf P k key = some kl) (h : Mp P k w b D) :
    ∃ r w', (execOp a.eval o).run P w = .ok (.value r) w' ∧ r = .tuple #[] ∧ Mp P k w' b (D.del kl) ∧ Ext (One b) w w' ∧ w'.heap.size = w.heap.size := by
  obtain ⟨es, clock, hb, F, hs, rfl⟩ := h
  obtain ⟨es', hrun, F', hsz, hdel, _⟩ := Maps.fit_drop (ty := o.type) K ht hb F hkey
  subst hts
  refine ⟨_, setBlock w b (.map es' clock), by simp [execOp, hop, resolve, invoke, builtin, hT.eval hx, hT.eval hy, hrun], rfl, Mp.of (m := es.size) ⟨es', clock, heap_setBlock_same hb _, F', hsz, ?_⟩, ?_, by simp [setBlock]⟩
  · rw [hdel]; rfl
  · exact ⟨rfl, rfl, rfl, by simp [setBlock], fun i _ hi => heap_setBlock_other hb _ (fun h => hi h), dr_of (run_drawn P _ _ _ _ hrun)⟩

theorem Hp.newM (H : Hp w0 S w hl) (N : NewM P k w b w') : Hp w0 S w' (cM P k b (.map []) :: hl) :=
  H.cons N.ext N.mp.ck fun i hi => by
    have h1 : i = b := hi
    have h2 := N.at_
    have h3 := N.size
    omega
theorem Hp.mp (H : Hp w0 S w hl) (i : Nat) (h : cget hl i = some (cM P k b D)) : Mp P k w b D := (H.ck _ (mem_of_cget h)).now
theorem Hp.heldM {T : Nat → Prop} (H : Hp w0 S w hl) (i : Nat) (h : cget hl i = some (cM P k b D)) (x : Ext T w w') (hd : ∀ j, j < w.heap.size → One b j → ¬ T j) : Mp P k w' b D := H.held (F := One b) (p := fun w => Mp P k w b D) i h x hd
theorem Hp.setM {D' : DataW Value} (H : Hp w0 S w hl) (i : Nat) (h : cget hl i = some (cM P k b D)) (hm : Mp P k w' b D') (x : Ext (One b) w w') (hs : cset hl i (cM P k b D') = some l') : Hp w0 S w' l' :=
  H.eff (d := cM P k b D') i h x hm.ck (fun j hj => by
    have hj' : j = b := hj
    exact ⟨by rw [hj']; exact hm.lt, .inl hj'⟩) hs
end

/-! a call whose value nobody takes -/
section
variable {P : Program} {ops : Array Oper} {Q : Exit → Act → World → Prop} {H : World → Prop} {s : List (Nat × How)} {i n : Nat} {l : List (Nat × Value)} {a : Act} {w : World} {o : Oper}
theorem st_drop {R : Value → World → Prop} (hT : Sl n l a) (ho : ops[i]? = some o) (hd : o.dst = none) (hw : wantedIn ops l o.guard = some true)
    (hv : ∃ v w', (execOp a.eval o).run P w = .ok (.value v) w' ∧ R v w')
    (k : ∀ v w', R v w' → Ser P ops Q H s a w') : Ser P ops Q H ((i, .run) :: s) a w := by
  obtain ⟨v, w', hr, hR⟩ := hv
  show wpOp P ops Q i (Ser P ops Q H s) a w
  simp only [wpOp, ho, hT.wanted hw, if_true, Oper.wp, hr, Oper.upon, hd]
  exact .inl (k v w' hR)
theorem st_dropkeep {R : Value → World → Prop} (hT : Sl n l a) (ho : ops[i]? = some o) (hd : o.dst = none) (hw : wantedIn ops l o.guard = some true)
    (hv : ∃ v w', (execOp a.eval o).run P w = .ok (.value v) w' ∧ R v w')
    (k : ∀ v w', R v w' → H w' ∧ Ser P ops Q H s a w') : Ser P ops Q H ((i, .keep) :: s) a w := by
  obtain ⟨v, w', hr, hR⟩ := hv
  show wpOp P ops Q i (fun a' w' => (H w → H w') ∧ Ser P ops Q H s a' w') a w
  simp only [wpOp, ho, hT.wanted hw, if_true, Oper.wp, hr, Oper.upon, hd]
  exact .inl ⟨fun _ => (k v w' hR).1, (k v w' hR).2⟩
end

/-! a map told as a list, in its keys' order -/
section
variable {α : Type} (kl : α → Lit) (en : α → Value)
def tab (L : List α) : DataW Value := .map (L.map fun x => (kl x, .held (en x)))
def insT (x : α) : List α → List α
  | [] => [x]
  | y :: r => if (kl x).before (kl y) = true then x :: y :: r else y :: insT x r
def putT (x : α) (L : List α) : List α := insT kl x (L.filter fun y => !(kl y).sameKey (kl x))
def getT (L : List α) (k : Lit) : Option α := L.find? fun x => (kl x).sameKey k
variable {kl en}
theorem has_tab (L : List α) (k : Lit) : Maps.has (tab kl en L) k = (getT kl L k).isSome := by
  unfold tab getT
  rw [Maps.has_eq]
  induction L with
  | nil => rfl
  | cons x L ih =>
    simp only [List.map_cons, List.any_cons, List.find?_cons]
    cases (kl x).sameKey k
    · simpa using ih
    · rfl
theorem atV_tab (L : List α) (k : Lit) (z : Value) : atV (tab kl en L) k z = ((getT kl L k).map en).getD z := by
  unfold atV tab getT DataW.atKey
  induction L with
  | nil => rfl
  | cons x L ih =>
    simp only [List.map_cons, List.find?_cons]
    cases (kl x).sameKey k
    · simpa using ih
    · rfl
theorem ins_tab (x : α) : ∀ L : List α, DataW.insert (kl x, .held (en x)) (L.map fun y => (kl y, (.held (en y) : DataW Value))) = (insT kl x L).map fun y => (kl y, .held (en y))
  | [] => rfl
  | y :: r => by
    simp only [List.map_cons, DataW.insert, insT]
    split
    · rfl
    · rw [ins_tab x r]; rfl
theorem fil_tab (f : Lit → Bool) (L : List α) : (L.map fun y => (kl y, (.held (en y) : DataW Value))).filter (fun p => f p.1) = (L.filter fun y => f (kl y)).map fun y => (kl y, .held (en y)) := by
  rw [List.filter_map]; rfl
theorem put_tab (x : α) (L : List α) : (tab kl en L).put (kl x) (.held (en x)) = tab kl en (putT kl x L) := by
  unfold tab putT DataW.put
  dsimp only
  rw [fil_tab (fun k => !k.sameKey (kl x)), ins_tab]
theorem del_tab (k : Lit) (L : List α) : (tab kl en L).del k = tab kl en (L.filter fun y => !(kl y).sameKey k) := by
  unfold tab DataW.del
  dsimp only
  rw [fil_tab (fun q => !q.sameKey k)]
theorem size_tab (L : List α) : Maps.size (tab kl en L) = L.length := by
  unfold tab; rw [Maps.size_eq, List.length_map]
theorem ints_tab (L : List α) : Go.intKeys (tab kl en L) = L.map fun x => Go.intOf (kl x) := by
  unfold tab Go.intKeys; dsimp only; rw [List.map_map]; rfl
end
end Go.Sx
