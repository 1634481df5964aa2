/- The tables and the errors, out of the rows; queries with what their floats are. -/
import Derived.Test.YtainemoobhkeiaaGreatDoorL0
import Derived.Test.YtainemoobhkeiaaGreatDoorW16
import Derived.Test.YtainemoobhkeiaaGreatDoorRows
set_option linter.unusedSimpArgs false
set_option linter.unusedVariables false
namespace Go.Proofs.YtainemoobhkeiaaGreatDoor
open Sx Go.ChangeShapes Go.WideShapes Go.ChangeAt Go.RowKit
theorem arg_queryF {H : Type} {enc : TypeId × Value → H} {W : World} {v : Value} (h : Arg enc Tryz.prog W 26 v) : ∃ q : Query, v = .agg #[.string ⟨q.fr.toArray⟩, .string ⟨q.to.toArray⟩, .int .i64 q.kind, .int .i64 q.lo.kind, .float .f64 q.lo.num, .string ⟨q.lo.text.toArray⟩, .int .i64 q.hi.kind, .float .f64 q.hi.num, .string ⟨q.hi.text.toArray⟩, .bool q.back, .int .i64 q.most, .string ⟨q.after.toArray⟩] ∧ inInt q.kind ∧ inInt q.most ∧ q.lo.num < 18446744073709551616 ∧ q.hi.num < 18446744073709551616 := by
  obtain ⟨cs, rfl, hc, n, u, hu⟩ := arg_struct Tryz.underlying26 h
  obtain ⟨a, b, c, d, e, f, g, i, j, k, l, m, rfl, -, -, hk, -, h1, -, -, h2, -, hm, -⟩ := read_query n cs u (by rw [hc]; kernel_rfl) hu
  exact ⟨⟨a, b, c, ⟨d, e, f⟩, ⟨g, i, j⟩, k, l, m⟩, rfl, hk, hm, h1, h2⟩
theorem star_130 : "*" ++ "errors.errorString" = "*errors.errorString" := by decide
theorem row_130 (u : TypeId) (h : Tryz.prog.typeName? 3 u = some "*errors.errorString") : u = 130 :=
  typeName_ptr_named (nm := "errors.errorString") (by rw [star_130]; kernel_rfl) (by kernel_rfl) (by decide) u (by rw [star_130]; exact h)
theorem Tryz.cellsOf132 : Tryz.prog.cellsOf 132 = 1 := by kernel_rfl
theorem Tryz.cellsOf9 : Tryz.prog.cellsOf 9 = 1 := by kernel_rfl
theorem env_laid {W : World} (h : laidMetH Tryz.prog Rows.scanTextsRow.laid W) : Env W := by
  have h2 := laid_plain (by kernel_rfl) h
  refine ⟨Lib.tabIs_of_head (g := 4) (t := 140) (e := 93) (n := 20) (by kernel_rfl) (by kernel_rfl) Tryz.underlying140 Tryz.underlying93 (by kernel_rfl) (by kernel_rfl) (show laidMet Tryz.prog (("internal/strconv.uint64pow10", Lib.tabData .u64 Lib.pow10Tab) :: ("strconv.ErrRange", Rows.laid_strconv_ErrRange) :: ("strconv.ErrSyntax", Rows.laid_strconv_ErrSyntax) :: []) W from h2.tail.tail), Lib.tabIs_of_head (g := 5) (t := 145) (e := 5) (n := 64) (by kernel_rfl) (by kernel_rfl) Tryz.underlying145 Tryz.underlying5 (by kernel_rfl) (by kernel_rfl) (show laidMet Tryz.prog (("math/bits.deBruijn64tab", Lib.tabData .u8 bruijn) :: ("internal/strconv.uint64pow10", Rows.laid_internal_strconv_uint64pow10) :: ("strconv.ErrRange", Rows.laid_strconv_ErrRange) :: ("strconv.ErrSyntax", Rows.laid_strconv_ErrSyntax) :: []) W from h2.tail), ?_, ?_⟩
  · obtain ⟨a, s, hv, -⟩ := laid_sentinel (n := "strconv.ErrSyntax") (g := 1) (h2.tail.tail.tail.tail) (by kernel_rfl) (by kernel_rfl) Tryz.underlying54 row_130 Tryz.underlying130 Tryz.underlying132 rfl rfl Tryz.underlying9 Tryz.cellsOf132 Tryz.cellsOf9
    exact ⟨_, _, hv⟩
  · obtain ⟨a, s, hv, -⟩ := laid_sentinel (n := "strconv.ErrRange") (g := 2) (h2.tail.tail.tail) (by kernel_rfl) (by kernel_rfl) Tryz.underlying54 row_130 Tryz.underlying130 Tryz.underlying132 rfl rfl Tryz.underlying9 Tryz.cellsOf132 Tryz.cellsOf9
    exact ⟨_, _, hv⟩
end Go.Proofs.YtainemoobhkeiaaGreatDoor
