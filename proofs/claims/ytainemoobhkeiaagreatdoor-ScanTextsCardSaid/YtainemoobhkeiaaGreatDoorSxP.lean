/- Reading structs and texts out of arguments; the way from a walk to a row that lists tables. -/
import Derived.Test.YtainemoobhkeiaaGreatDoorSxO
import Derived.LaidMore
import Derived.Stop.Joined
import Derived.Lib.LaidTab
import Derived.Stop.LaidErr
namespace Go.Sx
open Go.ChangeShapes Go.WideShapes Go.ChangeAt Go.RowKit
section
variable {H : Type} {enc : TypeId × Value → H} {P : Program} {w : World} {base : Nat} {spare : Nat → Bool} {held : Bool}
theorem rd_field {t : TypeId} {fs : Array Field} {fuel : Nat} {cs : List Value} {x : DataW H × List MemPlace} (ht : P.underlying t = some (.struct fs)) (h : DataW.trod enc P w base spare held fuel t cs = some x) (i : Nat) (f : Field) (hf : fs[i]? = some f) :
    ∃ n y, DataW.trod enc P w base spare held n f.type ((cs.drop f.offset).take (P.cellsOf f.type)) = some y := by
  obtain ⟨xs, n, -, -, -, hlen, hg⟩ := DataW.trod_struct ht h
  have h1 := hg i f hf
  have hi : i < xs.length := by rw [hlen]; exact (Array.getElem?_eq_some_iff.1 hf).1
  rw [List.getElem?_eq_getElem hi] at h1
  exact ⟨n, _, h1⟩
theorem rd_at {t : TypeId} {fs : Array Field} {fuel : Nat} {cs : List Value} {x : DataW H × List MemPlace} (ht : P.underlying t = some (.struct fs)) (h : DataW.trod enc P w base spare held fuel t cs = some x) (i : Nat) {f : Field} (hf : fs[i]? = some f) {ty : TypeId} {off sz : Nat} (h1 : f.type = ty) (h2 : f.offset = off) (h3 : P.cellsOf ty = sz) {ds : List Value} (h4 : (cs.drop off).take sz = ds) :
    ∃ n y, DataW.trod enc P w base spare held n ty ds = some y := by
  obtain ⟨n, y, h⟩ := rd_field ht h i f hf
  subst h1 h2 h3 h4
  exact ⟨n, y, h⟩
theorem read_str {t : TypeId} {fuel : Nat} {cs : List Value} {x : DataW H × List MemPlace} (ht : P.underlying t = some .string) (h : DataW.trod enc P w base spare held fuel t cs = some x) :
    ∃ l : List UInt8, cs = [.string ⟨l.toArray⟩] ∧ l.length ≤ 9223372036854775807 := by
  obtain ⟨s, rfl, -, hs⟩ := DataW.trod_string ht h
  refine ⟨s.data.toList, rfl, ?_⟩
  unfold maxLen at hs
  simp only [Array.length_toList]
  have e : s.size = s.data.size := rfl
  omega
theorem read_flt {t : TypeId} {fuel : Nat} {cs : List Value} {x : DataW H × List MemPlace} (ht : P.underlying t = some (.float .f64)) (h : DataW.trod enc P w base spare held fuel t cs = some x) : ∃ b : Nat, cs = [.float .f64 b] ∧ b < 2 ^ 64 := by
  cases fuel with
  | zero => simp [DataW.trod] at h
  | succ n =>
    unfold DataW.trod at h
    rw [ht] at h
    split at h <;> first | (exfalso; simp_all; done) | skip
    rename_i k0 k1 b heq
    injection heq with heq
    injection heq with heq
    subst heq
    split at h
    · rename_i hw
      obtain ⟨rfl, hw⟩ := hw
      exact ⟨b, rfl, of_decide_eq_true hw⟩
    · cases h
theorem arg_struct {W : World} {t : TypeId} {fs : Array Field} {v : Value} (ht : P.underlying t = some (.struct fs)) (h : Arg enc P W t v) :
    ∃ cs : List Value, v = .agg cs.toArray ∧ cs.length = P.cellsOf t ∧ ∃ n y, DataW.trod enc P W 0 (fun _ => true) true n t cs = some y := by
  obtain ⟨b, d, p, h1, n, h2⟩ := h
  obtain ⟨cs, rfl, hc⟩ := okWide_struct ht h1
  exact ⟨cs.toList, rfl, by simpa using hc, n, _, by simpa [Value.cells] using h2⟩
theorem arg_str {W : World} {t : TypeId} {v : Value} (ht : P.underlying t = some .string) (h : Arg enc P W t v) : ∃ l : List UInt8, v = .string ⟨l.toArray⟩ ∧ l.length ≤ 9223372036854775807 := by
  obtain ⟨b, d, p, h1, n, h2⟩ := h
  have hv : ∃ s, v = .string s := okWide_string ht h1
  obtain ⟨s, rfl⟩ := hv
  obtain ⟨l, e, h3⟩ := read_str ht h2
  simp [Value.cells] at e
  exact ⟨l, by rw [e], h3⟩
theorem lift_laid {C : Checked} {os : Os} {f : FuncId} {fn : Func} {s : ChangeSpec} {t : TypeId} {laid : List (String × DataW Unit)} (own : ownKnob C.prog.godebug = none) (started : os.Started) (hi : C.prog.inits.idxOf? f = none) (hf : C.prog.funcs[f]? = some fn)
    (wit : ∃ (w : World) (tape : Tape) (i : Input), w.os = os ∧ (w.forCall tape i).Shaped C.prog ∧ i.vars = [] ∧ Input.okWide C.prog (w.forCall tape i) .any w.heap.size f i ∧
      ((s.pre enc C.prog fn [] false (w.forCall tape i).memory i.args ∧ laidMetH C.prog laid (w.forCall tape i).memory) ∧ sizedMet enc C.prog fn (OpenSpec.ofChange s) false (w.forCall tape i).memory i.args) ∧
      ({} : Assume).holds C.prog (lone (Frame.enter C.prog f i.args .normal) [] (w.forCall tape i)))
    (hl : laidOutB C.prog = true) (hps : (fn.params.toList.all fun t => C.prog.readableRec t && decide (t < C.prog.types.size)) = true)
    (hr : fn.resultTypes = #[t]) (ht : C.prog.underlying t = some .bool) (hv : s.vars = []) (hfn : ∀ ds : List (DataW H), ds.length = fn.params.toList.length → s.fn H ds = { results := [.lit (.bool true)], args := ds })
    (key : ∀ (W : World) (args : Array Value), Args enc C.prog W fn.params.toList args.toList → laidMetH C.prog laid W → Calls C.prog f args W fun e W' => e = .returned (.bool true) ∧ Ext No W W') :
    ReturnsInHanded {} C os f .any (fun w args => (s.pre enc C.prog fn [] false w args ∧ laidMetH C.prog laid w) ∧ sizedMet enc C.prog fn (OpenSpec.ofChange s) false w args) (s.post enc C.prog fn false true false false) := by
  refine returnsInHanded_of_change_and (X := fun w _ => laidMetH C.prog laid w) (fun _ _ _ hh h => h.of_heap hh) own started hi hf wit ?_
  intro W base args ds gs before hval hW _ _ hL _
  have hW' := hW
  obtain ⟨p, q, hA, -, -, -, -⟩ := hW
  refine (key W args (args_of (b := base) (fun j t v ht hv => hval j t v (by simpa using ht) (by simpa using hv)) hA) hL).mono fun e W' h => ?_
  obtain ⟨rfl, hx⟩ := h
  exact ⟨_, rfl, post_true hl hps hr ht hv hfn hW' hx⟩
theorem laid_plain {laid : List (String × DataW Unit)} {W : World} (hp : (laid.all fun x => x.2.handleName?.isNone) = true) (h : laidMetH P laid W) : laidMet P laid W := by
  rwa [MakeChecks.laidMetH_plain _ _ _ hp] at h
end
end Go.Sx
