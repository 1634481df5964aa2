/- Reading arguments with what they weigh: no string, slice or map takes more than the platform's bytes. -/
import Derived.Test.YtonnladboikmhaaGreatDoorSxP
import Derived.SizedLaws
set_option linter.unusedSimpArgs false
set_option linter.unusedVariables false
namespace Go.Sx
open Go.ChangeShapes Go.WideShapes Go.ChangeAt Go.RowKit
section
variable {H : Type} {enc : TypeId × Value → H} {P : Program} {w : World} {base : Nat} {spare : Nat → Bool} {held : Bool}
theorem reach_eq : reachBytes = 140737488351232 := rfl
def Rz (enc : TypeId × Value → H) (P : Program) (w : World) (base : Nat) (spare : Nat → Bool) (held : Bool) (t : TypeId) (cs : List Value) : Prop :=
  ∃ n y, DataW.trod enc P w base spare held n t cs = some y ∧ ∀ m ∈ y.1.weights P t, m ≤ reachBytes
theorem rz_int {t : TypeId} {cs : List Value} (ht : P.underlying t = some (.int .i64)) (h : Rz enc P w base spare held t cs) : ∃ n : Int, cs = [.int .i64 n] ∧ -9223372036854775808 ≤ n ∧ n ≤ 9223372036854775807 := by
  obtain ⟨n, y, h, -⟩ := h
  exact read_int ht h
theorem rz_flt {t : TypeId} {cs : List Value} (ht : P.underlying t = some (.float .f64)) (h : Rz enc P w base spare held t cs) : ∃ b : Nat, cs = [.float .f64 b] ∧ b < 2 ^ 64 := by
  obtain ⟨n, y, h, -⟩ := h
  exact read_flt ht h
theorem rz_str {t : TypeId} {cs : List Value} (ht : P.underlying t = some .string) (h : Rz enc P w base spare held t cs) : ∃ l : List UInt8, cs = [.string ⟨l.toArray⟩] ∧ l.length ≤ 140737488351232 := by
  obtain ⟨n, y, h, hz⟩ := h
  obtain ⟨s, rfl, rfl, -⟩ := DataW.trod_string ht h
  refine ⟨s.data.toList, rfl, ?_⟩
  have := hz s.data.toList.length (by simp [DataW.weights])
  rw [reach_eq] at this
  exact this
theorem rz_at {t : TypeId} {fs : Array Field} {cs : List Value} (ht : P.underlying t = some (.struct fs)) (h : Rz enc P w base spare held t cs) (i : Nat) {f : Field} (hf : fs[i]? = some f) {ty : TypeId} {off sz : Nat} (h1 : f.type = ty) (h2 : f.offset = off) (h3 : P.cellsOf ty = sz) {ds : List Value} (h4 : (cs.drop off).take sz = ds) :
    Rz enc P w base spare held ty ds := by
  obtain ⟨n, y, h, hz⟩ := h
  obtain ⟨xs, n', -, rfl, -, hlen, hg⟩ := DataW.trod_struct ht h
  have hg1 := hg i f hf
  have hi : i < xs.length := by rw [hlen]; exact (Array.getElem?_eq_some_iff.1 hf).1
  rw [List.getElem?_eq_getElem hi] at hg1
  subst h1 h2 h3 h4
  refine ⟨n', _, hg1, fun m hm => hz m ?_⟩
  simp only [DataW.weights, ht]
  refine DataW.weights_mem_each (j := i) (t := f.type) (d := xs[i].1) ?_ ?_ m hm
  · rw [List.getElem?_map]
    have : fs.toList[i]? = some f := by simpa using hf
    rw [this]
    rfl
  · rw [List.getElem?_map, List.getElem?_eq_getElem hi]
    rfl
theorem weights_all {e : TypeId} : ∀ {ds : List (DataW H)} {d : DataW H}, d ∈ ds → ∀ n ∈ d.weights P e, n ∈ DataW.weightsAll P e ds
  | [], d, h, _, _ => by simp at h
  | x :: r, d, h, n, hn => by
    simp only [DataW.weightsAll, List.mem_append]
    rcases List.mem_cons.1 h with rfl | h
    · exact .inl hn
    · exact .inr (weights_all h n hn)
theorem rz_things {α : Type} {en : α → List Value} {R : α → Prop} {t e : TypeId} {sz : Nat} {cs : List Value} (ht : P.underlying t = some (.slice e)) (hc : P.cellsOf e = sz) (hsz : 0 < sz) (he : ∀ r, (en r).length = sz)
    (hel : ∀ cs', cs'.length = sz → Rz enc P w base spare held e cs' → ∃ r, cs' = en r ∧ R r) (h : Rz enc P w base spare held t cs) :
    ∃ ad c rs, cs = [.slice ad (List.length rs) c] ∧ Ss w ad en sz rs ∧ (∀ r ∈ rs, R r) ∧ (ad = none → rs.length = 0 ∧ c = 0) ∧ rs.length ≤ c ∧ c ≤ maxLen ∧ rs.length * P.bytesOf e ≤ 140737488351232 := by
  obtain ⟨n0, y0, h, hz⟩ := h
  rcases DataW.trod_slice ht h with ⟨rfl, -⟩ | ⟨a, len, cap, elems, rest, n, -, rfl, rfl, hb, hl, hm, hlen, hget, -, -⟩
  · exact ⟨none, 0, [], rfl, Ss.nil _ _ _, by simp, fun _ => ⟨rfl, rfl⟩, Nat.le_refl _, Nat.zero_le _, by simp⟩
  · have hwt : (len * P.bytesOf e) ≤ 140737488351232 := by
      have := hz ((elems.length + rest.length) * P.bytesOf e) (by simp [DataW.weights, ht])
      rw [reach_eq] at this
      have h2 : len * P.bytesOf e ≤ (elems.length + rest.length) * P.bytesOf e := Nat.mul_le_mul_right _ (by omega)
      omega
    have key : ∀ i, i < len → ∃ p : α, w.cells? base (a.add (i * sz)) sz = some (en p) ∧ R p := fun i hi => by
      have h1 := hget i hi
      rw [hc, List.getElem?_eq_getElem (by omega)] at h1
      obtain ⟨cs', h2, h3⟩ := Option.bind_eq_some_iff.1 h1
      obtain ⟨r, rfl, hR⟩ := hel cs' (cells_run h2 hsz).2.2 ⟨n, _, h3, fun m hm => hz m (by
        simp only [DataW.weights, ht, List.mem_cons, List.mem_append]
        refine .inr (.inl (weights_all (d := (elems[i]'(by omega)).1) ?_ m hm))
        exact List.mem_map_of_mem (List.getElem_mem _))⟩
      exact ⟨r, h2, hR⟩
    obtain ⟨l, hll, hp⟩ := choose_list len key
    refine ⟨some a, cap, l, by rw [hll], ⟨flat_len he _, fun h0 => ?_, ?_⟩, fun r hr => ?_, (fun hn => by cases hn), by rw [hll]; exact hl, hm, by rw [hll]; exact hwt⟩
    · rw [hll] at h0
      obtain ⟨p, h1, -⟩ := key 0 h0
      have := (cells_run h1 hsz).1
      simp only [Nat.zero_mul, Addr.add, if_true] at this
      obtain ⟨b, o, sp⟩ := a
      simp only at this
      subst this
      rfl
    · intro j v hj
      have hlt : j < l.length * sz := by rw [← flat_len he]; exact (List.getElem?_eq_some_iff.1 hj).1
      rw [hll] at hlt
      have hi : j / sz < len := Nat.div_lt_of_lt_mul (by rw [Nat.mul_comm]; exact hlt)
      have hmod := Nat.mod_lt j hsz
      have hjj : j / sz * sz + j % sz = j := by rw [Nat.mul_comm]; exact Nat.div_add_mod j sz
      have hpi := hp (j / sz) (l[j / sz]'(by rw [hll]; exact hi)) (List.getElem?_eq_getElem (by rw [hll]; exact hi))
      obtain ⟨hspot, hcs, -⟩ := cells_run hpi.1 hsz
      rw [← hjj, flat_get he (x := l[j / sz]'(by rw [hll]; exact hi)) (List.getElem?_eq_getElem (by rw [hll]; exact hi)) hmod] at hj
      have hc2 := hcs _ _ hj
      have ha : a.spot = none := by
        obtain ⟨p, h1, -⟩ := key 0 (Nat.lt_of_le_of_lt (Nat.zero_le _) hi)
        have := (cells_run h1 hsz).1
        simpa [Addr.add] using this
      obtain ⟨b, o, sp⟩ := a
      simp only at ha
      subst ha
      rw [add_addr] at hc2
      show w.cell? ⟨b, o + j, none⟩ = some v
      rw [← hjj, ← Nat.add_assoc]
      exact hc2
    · obtain ⟨i, hi⟩ := List.mem_iff_getElem?.1 hr
      exact (hp i r hi).2
theorem rz_slice {α : Type} {en : α → List Value} {R : α → Prop} {t e : TypeId} {sz : Nat} {v : Value} (ht : P.underlying t = some (.slice e)) (hc : P.cellsOf e = sz) (hsz : 0 < sz) (he : ∀ r, (en r).length = sz)
    (hel : ∀ cs', cs'.length = sz → Rz enc P w base spare held e cs' → ∃ r, cs' = en r ∧ R r) (h : Rz enc P w base spare held t [v]) :
    ∃ ad c rs, v = .slice ad (List.length rs) c ∧ Ss w ad en sz rs ∧ (∀ r ∈ rs, R r) ∧ (ad = none → rs.length = 0 ∧ c = 0) ∧ rs.length ≤ c ∧ c ≤ maxLen ∧ rs.length * P.bytesOf e ≤ 140737488351232 := by
  obtain ⟨ad, c, rs, e1, h1⟩ := rz_things ht hc hsz he hel h
  simp only [List.cons.injEq, and_true] at e1
  exact ⟨ad, c, rs, e1, h1⟩
/-! arguments -/
def ArgZ (enc : TypeId × Value → H) (P : Program) (W : World) (t : TypeId) (v : Value) : Prop := ∃ b, Value.okWide P W .any b t v ∧ Rz enc P W 0 (fun _ => true) true t v.cells.toList
def ArgsZ (enc : TypeId × Value → H) (P : Program) (W : World) : List TypeId → List Value → Prop
  | [], [] => True
  | t :: ts, v :: vs => ArgZ enc P W t v ∧ ArgsZ enc P W ts vs
  | _, _ => False
theorem argsZ_of {W : World} {b : Nat} : ∀ {ts : List TypeId} {vs : List Value} {ds : List (DataW H)} {ps : List MemPlace}, (∀ (j : Nat) t v, ts[j]? = some t → vs[j]? = some v → Value.okWide P W .any b t v) →
    (∀ (j : Nat) t d, ts[j]? = some t → ds[j]? = some d → ∀ n ∈ d.weights P t, n ≤ reachBytes) → DataW.TrodAll enc P W 0 (fun _ => true) true ts vs ds ps → ArgsZ enc P W ts vs
  | [], [], [], _, _, _, _ => trivial
  | _ :: _, _ :: _, _ :: _, _, hv, hz, ⟨_, _, h1, h2, _⟩ => by
    obtain ⟨n, h1⟩ := h1
    exact ⟨⟨b, hv 0 _ _ rfl rfl, n, _, h1, hz 0 _ _ rfl rfl⟩, argsZ_of (fun j t v ht hw => hv (j + 1) t v (by simpa using ht) (by simpa using hw)) (fun j t d ht hd => hz (j + 1) t d (by simpa using ht) (by simpa using hd)) h2⟩
  | [], _ :: _, _, _, _, _, h => h.elim
  | [], [], _ :: _, _, _, _, h => h.elim
  | _ :: _, [], _, _, _, _, h => h.elim
  | _ :: _, _ :: _, [], _, _, _, h => h.elim
theorem argsZ_cons {W : World} {t : TypeId} {ts : List TypeId} {vs : List Value} (h : ArgsZ enc P W (t :: ts) vs) : ∃ v vs', vs = v :: vs' ∧ ArgZ enc P W t v ∧ ArgsZ enc P W ts vs' := by
  cases vs with
  | nil => exact h.elim
  | cons v vs => exact ⟨v, vs, rfl, h.1, h.2⟩
theorem argsZ_nil {W : World} {vs : List Value} (h : ArgsZ enc P W [] vs) : vs = [] := by
  cases vs with
  | nil => rfl
  | cons v vs => exact h.elim
theorem argZ_struct {W : World} {t : TypeId} {fs : Array Field} {v : Value} (ht : P.underlying t = some (.struct fs)) (h : ArgZ enc P W t v) :
    ∃ cs : List Value, v = .agg cs.toArray ∧ cs.length = P.cellsOf t ∧ Rz enc P W 0 (fun _ => true) true t cs := by
  obtain ⟨b, h1, h2⟩ := h
  obtain ⟨cs, rfl, hc⟩ := okWide_struct ht h1
  exact ⟨cs.toList, rfl, by simpa using hc, by simpa [Value.cells] using h2⟩
theorem argZ_things {α : Type} {en : α → List Value} {R : α → Prop} {t e : TypeId} {sz : Nat} {W : World} {v : Value} (ht : P.underlying t = some (.slice e)) (hc : P.cellsOf e = sz) (hsz : 0 < sz) (he : ∀ r, (en r).length = sz)
    (hel : ∀ cs', cs'.length = sz → Rz enc P W 0 (fun _ => true) true e cs' → ∃ r, cs' = en r ∧ R r) (h : ArgZ enc P W t v) :
    ∃ ad c rs, v = .slice ad (List.length rs) c ∧ Ss W ad en sz rs ∧ (∀ r ∈ rs, R r) ∧ (ad = none → rs.length = 0 ∧ c = 0) ∧ rs.length ≤ c ∧ c ≤ maxLen ∧ rs.length * P.bytesOf e ≤ 140737488351232 := by
  obtain ⟨b, h1, h2⟩ := h
  obtain ⟨a, len, cap, rfl⟩ := okWide_slice ht h1
  exact rz_slice ht hc hsz he hel (by simpa [Value.cells] using h2)
end
end Go.Sx
