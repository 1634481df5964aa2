/- From the form's reading of an argument to what the walks want to know of it; and from a walk that changes nothing old to the statement. -/
import Derived.Test.YtainemoobhkeiaaDoorSxI
import Derived.ProofKit
import Derived.OpenShut
import Derived.JoinedCond
namespace Go.Sx
open Go.ChangeShapes Go.WideShapes Go.ChangeAt Go.RowKit

section
variable {H : Type} {enc : TypeId × Value → H} {P : Program} {w : World} {base : Nat} {spare : Nat → Bool} {held : Bool}

theorem cells_len : ∀ {l : List Nat} {f : Nat → Option Value} {cs : List Value}, l.mapM f = some cs → cs.length = l.length ∧ ∀ (i j : Nat), l[i]? = some j → cs[i]? = f j
  | [], f, cs, h => by simp at h; subst h; simp
  | x :: l, f, cs, h => by
    simp only [List.mapM_cons, Option.bind_eq_bind, Option.bind_eq_some_iff, Option.pure_def, Option.some.injEq] at h
    obtain ⟨v, hv, vs, hvs, rfl⟩ := h
    obtain ⟨h1, h2⟩ := cells_len hvs
    refine ⟨by simp [h1], fun i j hj => ?_⟩
    cases i with
    | zero => simp at hj; subst hj; simp [hv]
    | succ i => simpa using h2 i j (by simpa using hj)

theorem cells_run {a : Addr} {n : Nat} {cs : List Value} (h : w.cells? base a n = some cs) (hn : 0 < n) : a.spot = none ∧ Cs w a.block a.off cs ∧ cs.length = n := by
  unfold World.cells? at h
  split at h
  · obtain ⟨hl, hg⟩ := cells_len h
    have hl' : cs.length = n := by simpa using hl
    have hget : ∀ i, i < n → cs[i]? = w.cell? (a.add i) := fun i hi => by
      have := hg i i (by simp [hi])
      simpa using this
    have hsp : a.spot = none := by
      have h0 := hget 0 hn
      rw [List.getElem?_eq_getElem (by omega)] at h0
      simp only [Addr.add, if_true] at h0
      cases hs : a.spot with
      | none => rfl
      | some s =>
        unfold World.cell? at h0
        simp only [hs, Option.isSome_some, if_true] at h0
        split at h0 <;> cases h0
    refine ⟨hsp, fun j v hj => ?_, hl'⟩
    have hlt : j < n := by rw [← hl']; exact (List.getElem?_eq_some_iff.1 hj).1
    rw [hget j hlt] at hj
    have e : a.add j = ⟨a.block, a.off + j, none⟩ := by
      obtain ⟨b, o, sp⟩ := a
      simp only at hsp
      subst hsp
      exact add_addr b o j
    rw [← e]; exact hj
  · cases h

theorem choose_list {α : Type} {p : Nat → α → Prop} : ∀ (n : Nat), (∀ i, i < n → ∃ x, p i x) → ∃ l : List α, l.length = n ∧ ∀ i x, l[i]? = some x → p i x
  | 0, _ => ⟨[], rfl, by simp⟩
  | n + 1, h => by
    obtain ⟨l, hl, hp⟩ := choose_list n fun i hi => h i (by omega)
    obtain ⟨x, hx⟩ := h n (by omega)
    refine ⟨l ++ [x], by simp [hl], fun i y hy => ?_⟩
    rcases Nat.lt_or_ge i n with h1 | h1
    · rw [List.getElem?_append_left (by omega)] at hy; exact hp i y hy
    · rw [List.getElem?_append_right (by omega), hl] at hy
      have : i = n := by
        rcases Nat.eq_or_lt_of_le h1 with h2 | h2
        · exact h2.symm
        · rw [List.getElem?_eq_none (by simp; omega)] at hy; cases hy
      subst this
      simp at hy
      subst hy
      exact hx

theorem all2_of {α β : Type} {R : α → β → Prop} : ∀ {l : List (α × β)}, (∀ p ∈ l, R p.1 p.2) → All2 R (l.map (·.1)) (l.map (·.2))
  | [], _ => trivial
  | p :: l, h => ⟨h p (by simp), all2_of fun q hq => h q (by simp [hq])⟩

/-- a slice of things that are read one by one -/
theorem open_things {α β : Type} {en : α → List Value} {R : α → β → Prop} {t e : TypeId} {sz fuel : Nat} {cs : List Value} {x : DataW H × List MemPlace} (ht : P.underlying t = some (.slice e)) (hc : P.cellsOf e = sz) (hsz : 0 < sz) (he : ∀ r, (en r).length = sz)
    (h : DataW.trod enc P w base spare held fuel t cs = some x)
    (hel : ∀ n cs' y, cs'.length = sz → DataW.trod enc P w base spare held n e cs' = some y → ∃ r o, cs' = en r ∧ R r o) :
    ∃ ad c rs os, cs = [.slice ad rs.length c] ∧ Ss w ad en sz rs ∧ All2 R rs os ∧ (ad = none → rs.length = 0 ∧ c = 0) ∧ rs.length ≤ c ∧ c ≤ maxLen := by
  rcases DataW.trod_slice ht h with ⟨rfl, -⟩ | ⟨a, len, cap, elems, rest, n, -, rfl, -, hb, hl, hm, hlen, hget, -, -⟩
  · exact ⟨none, 0, [], [], rfl, Ss.nil _ _ _, trivial, fun _ => ⟨rfl, rfl⟩, Nat.le_refl _, Nat.zero_le _⟩
  · have key : ∀ i, i < len → ∃ p : α × β, w.cells? base (a.add (i * sz)) sz = some (en p.1) ∧ R p.1 p.2 := fun i hi => by
      have h1 := hget i hi
      rw [hc, List.getElem?_eq_getElem (by omega)] at h1
      obtain ⟨cs', h2, h3⟩ := Option.bind_eq_some_iff.1 h1
      obtain ⟨r, o, rfl, hR⟩ := hel n cs' _ (cells_run h2 hsz).2.2 h3
      exact ⟨(r, o), h2, hR⟩
    obtain ⟨l, hll, hp⟩ := choose_list len key
    have hrl : (l.map (fun p : α × β => p.1)).length = len := by simpa using hll
    have hall : All2 R (l.map (fun p : α × β => p.1)) (l.map (fun p : α × β => p.2)) := all2_of fun p hp' => by
      obtain ⟨i, hi⟩ := List.mem_iff_getElem?.1 hp'
      exact (hp i p hi).2
    refine ⟨some a, cap, l.map (fun p : α × β => p.1), l.map (fun p : α × β => p.2), by rw [hrl], ⟨flat_len he _, fun h0 => ?_, ?_⟩, hall, (fun hn => by cases hn), by rw [hrl]; exact hl, hm⟩
    · rw [hrl] at h0
      obtain ⟨p, h1, -⟩ := key 0 h0
      have := (cells_run h1 hsz).1
      simp only [Nat.zero_mul, Addr.add, if_true] at this
      obtain ⟨b, o, sp⟩ := a
      simp only at this
      subst this
      rfl
    · intro j v hj
      have hlt : j < (l.map (fun p : α × β => p.1)).length * sz := by rw [← flat_len he]; exact (List.getElem?_eq_some_iff.1 hj).1
      rw [hrl] at hlt
      have hi : j / sz < len := Nat.div_lt_of_lt_mul (by rw [Nat.mul_comm]; exact hlt)
      have hmod := Nat.mod_lt j hsz
      have hjj : j / sz * sz + j % sz = j := by rw [Nat.mul_comm]; exact Nat.div_add_mod j sz
      have hpi := hp (j / sz) (l[j / sz]'(by rw [hll]; exact hi)) (List.getElem?_eq_getElem (by rw [hll]; exact hi))
      have hkk : j / sz < l.length := by rw [hll]; exact hi
      obtain ⟨hspot, hcs, -⟩ := cells_run hpi.1 hsz
      rw [← hjj, flat_get he (x := (l[j / sz]'(by rw [hll]; exact hi)).1) (by rw [List.getElem?_map, List.getElem?_eq_getElem (by rw [hll]; exact hi)]; rfl) hmod] at hj
      have hc2 := hcs _ _ hj
      have ha : a.spot = none := by
        obtain ⟨p, h1, -⟩ := key 0 (Nat.lt_of_le_of_lt (Nat.zero_le _) hi)
        have := (cells_run h1 hsz).1
        simpa [Addr.add] using this
      obtain ⟨b, o, sp⟩ := a
      simp only at ha
      subst ha
      rw [add_addr] at hc2
      show w.cell? ⟨b, o + j, none⟩ = some v
      rw [← hjj, ← Nat.add_assoc]
      exact hc2

theorem bone : ∀ rs : List UInt8, rs.flatMap (fun b : UInt8 => [Value.int .u8 b.toNat]) = bcells rs
  | [] => rfl
  | b :: rs => by rw [List.flatMap_cons, bone rs]; rfl

/-- a slice of bytes -/
theorem open_bytes {t e : TypeId} {fuel : Nat} {cs : List Value} {x : DataW H × List MemPlace} (ht : P.underlying t = some (.slice e)) (he : P.underlying e = some (.int .u8)) (hc : P.cellsOf e = 1)
    (h : DataW.trod enc P w base spare held fuel t cs = some x) :
    ∃ ad c l, cs = [.slice ad l.length c] ∧ Bs w ad l ∧ (ad = none → l.length = 0 ∧ c = 0) ∧ l.length ≤ c ∧ c ≤ maxLen := by
  obtain ⟨ad, c, rs, os, h1, h2, -, h4, h5, h6⟩ := open_things (α := UInt8) (β := Unit) (en := fun b => [.int .u8 b.toNat]) (R := fun _ _ => True) ht hc (by decide) (fun _ => rfl) h (fun n cs' y _ hy => by
    obtain ⟨m, rfl, -, hw⟩ := DataW.trod_int he hy
    have hb : 0 ≤ m ∧ m ≤ 255 := by simpa [Lit.wf, IntKind.min, IntKind.max, IntKind.signed, IntKind.bits] using hw
    refine ⟨UInt8.ofNat m.toNat, (), ?_, trivial⟩
    have : (UInt8.ofNat m.toNat).toNat = m.toNat := by
      rw [UInt8.toNat_ofNat']; exact Nat.mod_eq_of_lt (by omega)
    rw [this, Int.toNat_of_nonneg hb.1])
  refine ⟨ad, c, rs, h1, ?_, h4, h5, h6⟩
  have e : rs.flatMap (fun b : UInt8 => [Value.int .u8 b.toNat]) = bcells rs := bone rs
  unfold Ss at h2
  rw [e] at h2
  exact h2

theorem read_int {t : TypeId} {fuel : Nat} {cs : List Value} {x : DataW H × List MemPlace} (ht : P.underlying t = some (.int .i64)) (h : DataW.trod enc P w base spare held fuel t cs = some x) :
    ∃ n : Int, cs = [.int .i64 n] ∧ -9223372036854775808 ≤ n ∧ n ≤ 9223372036854775807 := by
  obtain ⟨m, rfl, -, hw⟩ := DataW.trod_int ht h
  exact ⟨m, rfl, by simpa [Lit.wf, IntKind.min, IntKind.max, IntKind.signed, IntKind.bits] using hw⟩
theorem read_bool {t : TypeId} {fuel : Nat} {cs : List Value} {x : DataW H × List MemPlace} (ht : P.underlying t = some .bool) (h : DataW.trod enc P w base spare held fuel t cs = some x) : ∃ b : Bool, cs = [.bool b] := by
  cases fuel with
  | zero => simp [DataW.trod] at h
  | succ n =>
    unfold DataW.trod at h
    rw [ht] at h
    split at h <;> simp_all

theorem carry_all (hl : laidOutB P = true) {W W' : World} (hb : Below W.heap.size W W') : ∀ {ts : List TypeId} {vs : List Value} {ds : List (DataW H)} {ps : List MemPlace}, (∀ t ∈ ts, P.readableRec t = true ∧ t < P.types.size) →
    DataW.TrodAll enc P W 0 (fun _ => true) true ts vs ds ps → (∀ x ∈ ps, x.block < W.heap.size) → DataW.TrodAll enc P W' 0 (fun b => decide (b < W.heap.size)) true ts vs ds ps
  | [], [], [], _, _, h, _ => h
  | t :: _, _ :: _, _ :: _, _, ht, ⟨p, q, h1, h2, e⟩, hs =>
    ⟨p, q, Below.trod hl (ht t (by simp)).1 (ht t (by simp)).2 h1 hb (fun x hx => hs x (by rw [e]; exact List.mem_append_left _ hx)),
      carry_all hl hb (fun u hu => ht u (by simp [hu])) h2 (fun x hx => hs x (by rw [e]; exact List.mem_append_right _ hx)), e⟩
  | [], _ :: _, _, _, _, h, _ => h.elim
  | [], [], _ :: _, _, _, h, _ => h.elim
  | _ :: _, [], _, _, _, h, _ => h.elim
  | _ :: _, _ :: _, [], _, _, h, _ => h.elim
theorem trod_length {w : World} {base : Nat} {spare : Nat → Bool} {held : Bool} : ∀ {ts : List TypeId} {vs : List Value} {ds : List (DataW H)} {ps : List MemPlace}, DataW.TrodAll enc P w base spare held ts vs ds ps → ds.length = ts.length
  | [], [], [], _, _ => rfl
  | _ :: _, _ :: _, _ :: _, _, ⟨_, _, _, h2, _⟩ => by simp [trod_length h2]
  | [], _ :: _, _, _, h => h.elim
  | [], [], _ :: _, _, h => h.elim
  | _ :: _, [], _, _, h => h.elim
  | _ :: _, _ :: _, [], _, h => h.elim

/-- a call that answers true, and changes nothing that was there, is what a law asks -/
theorem post_true {f : Func} {s : ChangeSpec} {t : TypeId} {W W' : World} {args : Array Value} {ds gs : List (DataW H)} {before : List MemPlace} (hl : laidOutB P = true) (hps : (f.params.toList.all fun t => P.readableRec t && decide (t < P.types.size)) = true)
    (hr : f.resultTypes = #[t]) (ht : P.underlying t = some .bool) (hv : s.vars = []) (hfn : ∀ ds : List (DataW H), ds.length = f.params.toList.length → s.fn H ds = { results := [.lit (.bool true)], args := ds })
    (hW : DataW.Whole enc P f.params.toList s.vars false W args.toList ds gs before) (hx : Ext No W W') : s.post enc P f false true false false W args (.bool true) W' := by
  have hW' := hW
  obtain ⟨p, q, hA, hV, rfl, -, -⟩ := hW
  rw [hv] at hV
  obtain ⟨rfl, rfl⟩ := trodVars_none hV
  have hf := hfn (ds ++ []) (by rw [List.append_nil]; exact trod_length hA)
  have hp : ∀ u ∈ f.params.toList, P.readableRec u = true ∧ u < P.types.size := fun u hu => by simpa using List.all_eq_true.1 hps u hu
  refine ⟨ds, [], p ++ [], [], p ++ [], [], hW', ?_, ?_, ?_, hx.below.frame _, fun h => by cases h⟩
  · rw [hf, hr]
    exact trodAll_cons_mk (p := []) (p' := []) (shut_bool ht true) trodAll_mk0
  · rw [hf]
    simp only [List.append_nil]
    exact carry_all hl hx.below hp hA (fun x hx => hW'.lt x (by simpa using hx))
  · rw [hf, hv]
    rfl

/-- what is known of one argument at the call's begin -/
def Arg (enc : TypeId × Value → H) (P : Program) (W : World) (t : TypeId) (v : Value) : Prop := ∃ b d p, Value.okWide P W .any b t v ∧ DataW.Trod enc P W 0 (fun _ => true) true t v d p
def Args (enc : TypeId × Value → H) (P : Program) (W : World) : List TypeId → List Value → Prop
  | [], [] => True
  | t :: ts, v :: vs => Arg enc P W t v ∧ Args enc P W ts vs
  | _, _ => False
theorem args_of {W : World} {b : Nat} : ∀ {ts : List TypeId} {vs : List Value} {ds : List (DataW H)} {ps : List MemPlace}, (∀ (j : Nat) t v, ts[j]? = some t → vs[j]? = some v → Value.okWide P W .any b t v) →
    DataW.TrodAll enc P W 0 (fun _ => true) true ts vs ds ps → Args enc P W ts vs
  | [], [], [], _, _, _ => trivial
  | _ :: _, _ :: _, _ :: _, _, hv, ⟨_, _, h1, h2, _⟩ => ⟨⟨b, _, _, hv 0 _ _ rfl rfl, h1⟩, args_of (fun j t v ht hw => hv (j + 1) t v (by simpa using ht) (by simpa using hw)) h2⟩
  | [], _ :: _, _, _, _, h => h.elim
  | [], [], _ :: _, _, _, h => h.elim
  | _ :: _, [], _, _, _, h => h.elim
  | _ :: _, _ :: _, [], _, _, h => h.elim
theorem args_cons {W : World} {t : TypeId} {ts : List TypeId} {vs : List Value} (h : Args enc P W (t :: ts) vs) : ∃ v vs', vs = v :: vs' ∧ Arg enc P W t v ∧ Args enc P W ts vs' := by
  cases vs with
  | nil => exact h.elim
  | cons v vs => exact ⟨v, vs, rfl, h.1, h.2⟩
theorem args_nil {W : World} {vs : List Value} (h : Args enc P W [] vs) : vs = [] := by
  cases vs with
  | nil => rfl
  | cons v vs => exact h.elim

theorem arg_int {W : World} {t : TypeId} {v : Value} (ht : P.underlying t = some (.int .i64)) (h : Arg enc P W t v) : ∃ n : Int, v = .int .i64 n ∧ -9223372036854775808 ≤ n ∧ n ≤ 9223372036854775807 := by
  obtain ⟨b, d, p, h1, n, h2⟩ := h
  obtain ⟨m, rfl⟩ := okWide_int ht h1
  obtain ⟨k, e, h3⟩ := read_int ht h2
  simp [Value.cells] at e
  subst e
  exact ⟨m, rfl, h3⟩
theorem arg_u64 {W : World} {t : TypeId} {v : Value} (ht : P.underlying t = some (.int .u64)) (h : Arg enc P W t v) : ∃ n : Nat, v = .int .u64 n ∧ n ≤ 18446744073709551615 := by
  obtain ⟨b, d, p, h1, n, h2⟩ := h
  obtain ⟨m, rfl⟩ := okWide_int ht h1
  obtain ⟨k, e, -, hw⟩ := DataW.trod_int ht h2
  simp [Value.cells] at e
  subst e
  have hb : 0 ≤ m ∧ m ≤ 18446744073709551615 := by simpa [Lit.wf, IntKind.min, IntKind.max, IntKind.signed, IntKind.bits] using hw
  exact ⟨m.toNat, by rw [Int.toNat_of_nonneg hb.1], by omega⟩
theorem arg_bool {W : World} {t : TypeId} {v : Value} (ht : P.underlying t = some .bool) (h : Arg enc P W t v) : ∃ b : Bool, v = .bool b := by
  obtain ⟨b, d, p, h1, n, h2⟩ := h
  exact okWide_bool ht h1
theorem arg_bytes {W : World} {t e : TypeId} {v : Value} (ht : P.underlying t = some (.slice e)) (he : P.underlying e = some (.int .u8)) (hc : P.cellsOf e = 1) (h : Arg enc P W t v) :
    ∃ ad c l, v = .slice ad (List.length l) c ∧ Bs W ad l ∧ (ad = none → l.length = 0 ∧ c = 0) ∧ l.length ≤ c ∧ c ≤ maxLen := by
  obtain ⟨b, d, p, h1, n, h2⟩ := h
  obtain ⟨a, len, cap, rfl⟩ := okWide_slice ht h1
  obtain ⟨ad, c, l, e, h3⟩ := open_bytes ht he hc h2
  simp [Value.cells] at e
  obtain ⟨rfl, rfl, rfl⟩ := e
  exact ⟨_, _, l, rfl, h3⟩
theorem arg_things {α β : Type} {en : α → List Value} {R : α → β → Prop} {t e : TypeId} {sz : Nat} {W : World} {v : Value} (ht : P.underlying t = some (.slice e)) (hc : P.cellsOf e = sz) (hsz : 0 < sz) (he : ∀ r, (en r).length = sz)
    (hel : ∀ n cs' y, cs'.length = sz → DataW.trod enc P W 0 (fun _ => true) true n e cs' = some y → ∃ r o, cs' = en r ∧ R r o) (h : Arg enc P W t v) :
    ∃ ad c rs os, v = .slice ad (List.length rs) c ∧ Ss W ad en sz rs ∧ All2 R rs os ∧ (ad = none → rs.length = 0 ∧ c = 0) ∧ rs.length ≤ c ∧ c ≤ maxLen := by
  obtain ⟨b, d, p, h1, n, h2⟩ := h
  obtain ⟨a, len, cap, rfl⟩ := okWide_slice ht h1
  obtain ⟨ad, c, rs, os, e, h3⟩ := open_things ht hc hsz he h2 hel
  simp [Value.cells] at e
  obtain ⟨rfl, rfl, rfl⟩ := e
  exact ⟨_, _, rs, os, rfl, h3⟩

/-- the same, up to the statement's row -/
theorem lift_true {C : Checked} {os : Os} {f : FuncId} {fn : Func} {s : ChangeSpec} {t : TypeId} (own : ownKnob C.prog.godebug = none) (started : os.Started) (hi : C.prog.inits.idxOf? f = none) (hf : C.prog.funcs[f]? = some fn)
    (wit : ∃ (w : World) (tape : Tape) (i : Input), w.os = os ∧ World.Shaped C.prog (w.forCall tape i) ∧ i.vars = [] ∧ Input.okWide C.prog (w.forCall tape i) Reach.any w.heap.size f i ∧ ChangeSpec.pre6 enc C.prog fn s [] false (w.forCall tape i).memory i.args ∧
      ({} : Assume).holds C.prog (lone (Frame.enter C.prog f i.args CallKind.normal) [] (w.forCall tape i)))
    (hl : laidOutB C.prog = true) (hps : (fn.params.toList.all fun t => C.prog.readableRec t && decide (t < C.prog.types.size)) = true)
    (hr : fn.resultTypes = #[t]) (ht : C.prog.underlying t = some .bool) (hv : s.vars = []) (hfn : ∀ ds : List (DataW H), ds.length = fn.params.toList.length → s.fn H ds = { results := [.lit (.bool true)], args := ds })
    (key : ∀ (W : World) (args : Array Value), Args enc C.prog W fn.params.toList args.toList → Calls C.prog f args W fun e W' => e = .returned (.bool true) ∧ Ext No W W') :
    ReturnsInHanded {} C os f .any (s.pre6 enc C.prog fn [] false) (s.post enc C.prog fn false true false false) := by
  refine returnsInHanded_of_change own started hi hf wit ?_
  intro W base args ds gs before hval hW _ _
  have hW' := hW
  obtain ⟨p, q, hA, -, -, -, -⟩ := hW
  refine (key W args (args_of (b := base) (fun j t v ht hv => hval j t v (by simpa using ht) (by simpa using hv)) hA)).mono fun e W' h => ?_
  obtain ⟨rfl, hx⟩ := h
  exact ⟨_, rfl, post_true hl hps hr ht hv hfn hW' hx⟩
end
end Go.Sx
