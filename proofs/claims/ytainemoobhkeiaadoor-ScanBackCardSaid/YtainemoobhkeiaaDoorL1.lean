/- The tables and the errors, out of the rows; queries with what their floats are. -/
import Derived.Test.YtainemoobhkeiaaDoorL0
import Derived.Test.YtainemoobhkeiaaDoorW16
import Derived.Test.YtainemoobhkeiaaDoorRows
set_option linter.unusedSimpArgs false
set_option linter.unusedVariables false
namespace Go.Proofs.YtainemoobhkeiaaDoor
open Sx Go.ChangeShapes Go.WideShapes Go.ChangeAt Go.RowKit

theorem arg_queryF {H : Type} {enc : TypeId × Value → H} {W : World} {v : Value} (h : Arg enc Tryd.prog W 27 v) : ∃ q : Query, v = .agg #[.string ⟨q.fr.toArray⟩, .string ⟨q.to.toArray⟩, .int .i64 q.kind, .int .i64 q.lo.kind, .float .f64 q.lo.num, .string ⟨q.lo.text.toArray⟩, .int .i64 q.hi.kind, .float .f64 q.hi.num, .string ⟨q.hi.text.toArray⟩, .bool q.back, .int .i64 q.most, .string ⟨q.after.toArray⟩] ∧ inInt q.kind ∧ inInt q.most ∧ q.lo.num < 18446744073709551616 ∧ q.hi.num < 18446744073709551616 := by
  obtain ⟨cs, rfl, hc, n, u, hu⟩ := arg_struct Tryd.underlying27 h
  obtain ⟨a, b, c, d, e, f, g, i, j, k, l, m, rfl, -, -, hk, -, h1, -, -, h2, -, hm, -⟩ := read_query n cs u (by rw [hc]; kernel_rfl) hu
  exact ⟨⟨a, b, c, ⟨d, e, f⟩, ⟨g, i, j⟩, k, l, m⟩, rfl, hk, hm, h1, h2⟩

theorem star_130 : "*" ++ "errors.errorString" = "*errors.errorString" := by decide
theorem row_130 (u : TypeId) (h : Tryd.prog.typeName? 3 u = some "*errors.errorString") : u = 130 :=
  typeName_ptr_named (nm := "errors.errorString") (by rw [star_130]; kernel_rfl) (by kernel_rfl) (by decide) u (by rw [star_130]; exact h)
theorem Tryd.cellsOf132 : Tryd.prog.cellsOf 132 = 1 := by kernel_rfl
theorem Tryd.cellsOf9 : Tryd.prog.cellsOf 9 = 1 := by kernel_rfl
theorem env_laid {W : World} (h : laidMetH Tryd.prog Rows.scanBackRow.laid W) : Env W := by
  have h2 := laid_plain (by kernel_rfl) h
  refine ⟨Lib.tabIs_of_head (g := 4) (t := 140) (e := 78) (n := 20) (by kernel_rfl) (by kernel_rfl) Tryd.underlying140 Tryd.underlying78 (by kernel_rfl) (by kernel_rfl) (show laidMet Tryd.prog (("internal/strconv.uint64pow10", Lib.tabData .u64 Lib.pow10Tab) :: ("strconv.ErrRange", Rows.laid_strconv_ErrRange) :: ("strconv.ErrSyntax", Rows.laid_strconv_ErrSyntax) :: []) W from h2.tail.tail), Lib.tabIs_of_head (g := 5) (t := 145) (e := 5) (n := 64) (by kernel_rfl) (by kernel_rfl) Tryd.underlying145 Tryd.underlying5 (by kernel_rfl) (by kernel_rfl) (show laidMet Tryd.prog (("math/bits.deBruijn64tab", Lib.tabData .u8 bruijn) :: ("internal/strconv.uint64pow10", Rows.laid_internal_strconv_uint64pow10) :: ("strconv.ErrRange", Rows.laid_strconv_ErrRange) :: ("strconv.ErrSyntax", Rows.laid_strconv_ErrSyntax) :: []) W from h2.tail), ?_, ?_⟩
  · obtain ⟨a, s, hv, -⟩ := laid_sentinel (n := "strconv.ErrSyntax") (g := 1) (h2.tail.tail.tail.tail) (by kernel_rfl) (by kernel_rfl) Tryd.underlying66 row_130 Tryd.underlying130 Tryd.underlying132 rfl rfl Tryd.underlying9 Tryd.cellsOf132 Tryd.cellsOf9
    exact ⟨_, _, hv⟩
  · obtain ⟨a, s, hv, -⟩ := laid_sentinel (n := "strconv.ErrRange") (g := 2) (h2.tail.tail.tail) (by kernel_rfl) (by kernel_rfl) Tryd.underlying66 row_130 Tryd.underlying130 Tryd.underlying132 rfl rfl Tryd.underlying9 Tryd.cellsOf132 Tryd.cellsOf9
    exact ⟨_, _, hv⟩

end Go.Proofs.YtainemoobhkeiaaDoor
