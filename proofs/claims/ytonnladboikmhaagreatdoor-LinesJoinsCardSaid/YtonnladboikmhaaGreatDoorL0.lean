/- Reading entries; what the package variables hold. -/
import Derived.Test.YtonnladboikmhaaGreatDoorW13
import Derived.Test.YtonnladboikmhaaGreatDoorSxY
import Derived.Test.YtonnladboikmhaaGreatDoorSxP
import Derived.Test.YtonnladboikmhaaGreatDoorRows
import Derived.Lay
set_option linter.unusedSimpArgs false
set_option linter.unusedVariables false
namespace Go.Proofs.YtonnladboikmhaaGreatDoor
open Sx Go.ChangeShapes Go.WideShapes Go.ChangeAt Go.RowKit
section
variable {H : Type} {enc : TypeId × Value → H}
theorem lift_laidZS {C : Checked} {os : Os} {f : FuncId} {fn : Func} {s : ChangeSpec} {t : TypeId} {laid : List (String × DataW Unit)} (own : ownKnob C.prog.godebug = none) (started : os.Started) (hi : C.prog.inits.idxOf? f = none) (hf : C.prog.funcs[f]? = some fn)
    (wit : ∃ (w : World) (tape : Tape) (i : Input), w.os = os ∧ (w.forCall tape i).Shaped C.prog ∧ i.vars = [] ∧ Input.okWide C.prog (w.forCall tape i) .any w.heap.size f i ∧
      ((s.pre enc C.prog fn [] false (w.forCall tape i).memory i.args ∧ laidMetH C.prog laid (w.forCall tape i).memory) ∧ sizedMet enc C.prog fn (OpenSpec.ofChange s) false (w.forCall tape i).memory i.args) ∧
      ({} : Assume).holds C.prog (lone (Frame.enter C.prog f i.args .normal) [] (w.forCall tape i)))
    (hl : laidOutB C.prog = true) (hps : (fn.params.toList.all fun t => C.prog.readableRec t && decide (t < C.prog.types.size)) = true)
    (hr : fn.resultTypes = #[t]) (ht : C.prog.underlying t = some .bool) (hv : s.vars = []) (hfn : ∀ ds : List (DataW H), ds.length = fn.params.toList.length → s.fn H ds = { results := [.lit (.bool true)], args := ds })
    (key : ∀ (W : World) (args : Array Value), ArgsZ enc C.prog W fn.params.toList args.toList → laidMetH C.prog laid W → W.ShapedOpen C.prog → Calls C.prog f args W fun e W' => e = .returned (.bool true) ∧ Ext No W W') :
    ReturnsInHanded {} C os f .any (fun w args => (s.pre enc C.prog fn [] false w args ∧ laidMetH C.prog laid w) ∧ sizedMet enc C.prog fn (OpenSpec.ofChange s) false w args) (s.post enc C.prog fn false true false false) := by
  refine returnsInHanded_of_calls own started hi wit ?_
  intro w tape i _ hsh _ hok hpre hholds
  obtain ⟨_, _, _, fn', hfn', _, _, _, _, hval⟩ := hok
  have e : fn' = fn := Option.some.inj (hfn'.symm.trans hf)
  subst e
  obtain ⟨⟨⟨ds, gs, before, hw, hc⟩, hx⟩, hz⟩ := hpre
  have hw' := DataW.Whole.of_heap (w' := w.forCall tape i) (by rfl) hw
  have hW := hw'
  have hz9 := hz.weights hw
  obtain ⟨p, q, hA, -, -, -, -⟩ := hw'
  have hz2 : ∀ (j : Nat) t d, fn'.params.toList[j]? = some t → ds[j]? = some d → ∀ n ∈ d.weights C.prog t, n ≤ reachBytes := fun j t d ht hd n hn => by
    have h1 := (List.getElem?_eq_some_iff.1 ht).1
    have h2 := (List.getElem?_eq_some_iff.1 hd).1
    have := List.all_eq_true.1 hz9 n (DataW.weights_mem_each (j := j) (t := t) (d := d) (by rw [List.getElem?_append_left h1]; exact ht) (by rw [List.getElem?_append_left h2]; exact hd) n hn)
    simpa using this
  refine (key (w.forCall tape i) i.args (argsZ_of (b := w.heap.size) (fun j t v ht hv => hval j t v (by simpa using ht) (by simpa using hv)) hz2 hA) (hx.of_heap (by rfl)) hsh).mono fun e W' h => ?_
  obtain ⟨rfl, hx'⟩ := h
  exact ChangeSpec.post_blind (post_true hl hps hr ht hv hfn hW hx')
end
theorem star_191 : "*" ++ "errors.errorString" = "*errors.errorString" := by decide
theorem row_191 (u : TypeId) (h : Tryz.prog.typeName? 3 u = some "*errors.errorString") : u = 191 :=
  typeName_ptr_named (nm := "errors.errorString") (by rw [star_191]; kernel_rfl) (by kernel_rfl) (by decide) u (by rw [star_191]; exact h)
theorem Tryz.cellsOf193 : Tryz.prog.cellsOf 193 = 1 := by kernel_rfl
theorem Tryz.cellsOf9 : Tryz.prog.cellsOf 9 = 1 := by kernel_rfl
theorem env_linesPrints {W : World} (h : laidMetH Tryz.prog Rows.linesPrintsRow.laid W) : Env W := by
  have h2 := laid_plain (by kernel_rfl) h
  refine ⟨Lib.tabIs_of_head (g := 2) (t := 160) (e := 96) (n := 20) (by kernel_rfl) (by kernel_rfl) Tryz.underlying160 Tryz.underlying96 (by kernel_rfl) (by kernel_rfl) (show laidMet Tryz.prog (("internal/strconv.uint64pow10", Lib.tabData .u64 Lib.pow10Tab) :: ("unicode/utf8.acceptRanges", Rows.laid_unicode_utf8_acceptRanges) :: ("strconv.ErrRange", Rows.laid_strconv_ErrRange) :: ("strconv.ErrSyntax", Rows.laid_strconv_ErrSyntax) :: ("unicode/utf8.first", Rows.laid_unicode_utf8_first) :: []) W from h2.tail.tail), Lib.tabIs_of_head (g := 3) (t := 174) (e := 5) (n := 64) (by kernel_rfl) (by kernel_rfl) Tryz.underlying174 Tryz.underlying5 (by kernel_rfl) (by kernel_rfl) (show laidMet Tryz.prog (("math/bits.deBruijn64tab", Lib.tabData .u8 bruijn) :: ("internal/strconv.uint64pow10", Rows.laid_internal_strconv_uint64pow10) :: ("unicode/utf8.acceptRanges", Rows.laid_unicode_utf8_acceptRanges) :: ("strconv.ErrRange", Rows.laid_strconv_ErrRange) :: ("strconv.ErrSyntax", Rows.laid_strconv_ErrSyntax) :: ("unicode/utf8.first", Rows.laid_unicode_utf8_first) :: []) W from h2.tail), ?_, ?_⟩
  · obtain ⟨a, s, hv, -⟩ := laid_sentinel (n := "strconv.ErrSyntax") (g := 4) (h2.tail.tail.tail.tail.tail) (by kernel_rfl) (by kernel_rfl) Tryz.underlying61 row_191 Tryz.underlying191 Tryz.underlying193 rfl rfl Tryz.underlying9 Tryz.cellsOf193 Tryz.cellsOf9
    exact ⟨_, _, hv⟩
  obtain ⟨a, s, hv, -⟩ := laid_sentinel (n := "strconv.ErrRange") (g := 5) (h2.tail.tail.tail.tail) (by kernel_rfl) (by kernel_rfl) Tryz.underlying61 row_191 Tryz.underlying191 Tryz.underlying193 rfl rfl Tryz.underlying9 Tryz.cellsOf193 Tryz.cellsOf9
  exact ⟨_, _, hv⟩
theorem max_len {W : World} (h : W.ShapedOpen Tryz.prog) : ∃ m, W.cell? ⟨0, 0, none⟩ = some (.int .i64 m) := Go.Proofs.cell_of_shapedOpen_int (zero := #[.int .i64 0]) (t := 3) h (of_decide_eq_true (by kernel_rfl)) (by kernel_rfl) rfl (by kernel_rfl) (by kernel_rfl) Tryz.underlying3
theorem own : ownKnob Tryz.prog.godebug = none := by kernel_rfl
theorem laidOut : laidOutB Tryz.prog = true := by kernel_rfl
theorem list_2 {α : Type} {ds : List α} {n : Nat} (h : ds.length = n) (hn : n = 2) : ∃ a0 a1, ds = [a0, a1] := by
  subst hn
  match ds, h with
  | [a0, a1], _ => exact ⟨a0, a1, rfl⟩
theorem env2_of {W : World} (h : laidMetH Tryz.prog Rows.linesPrintsRow.laid W) (hsh : W.ShapedOpen Tryz.prog) : Env2 W := ⟨env_linesPrints h, max_len hsh⟩
end Go.Proofs.YtonnladboikmhaaGreatDoor
