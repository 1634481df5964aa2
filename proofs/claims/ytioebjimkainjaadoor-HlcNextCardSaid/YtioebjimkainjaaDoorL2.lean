/- The tables and the two errors, out of the row. -/
import Derived.Test.YtioebjimkainjaaDoorL1
import Derived.Test.YtioebjimkainjaaDoorW10
import Derived.Test.YtioebjimkainjaaDoorRows
set_option linter.unusedSimpArgs false
set_option linter.unusedVariables false
namespace Go.Proofs.YtioebjimkainjaaDoor
open Sx Go.ChangeShapes Go.WideShapes Go.ChangeAt Go.RowKit

theorem gES : Tryd.prog.globalNamed "strconv.ErrSyntax" = some 0 := by kernel_rfl
theorem gER : Tryd.prog.globalNamed "strconv.ErrRange" = some 1 := by kernel_rfl
theorem gEST : (Tryd.prog.globals[0]?).map (·.type) = some 63 := by kernel_rfl
theorem gERT : (Tryd.prog.globals[1]?).map (·.type) = some 63 := by kernel_rfl
theorem star97 : "*" ++ "errors.errorString" = "*errors.errorString" := by decide
theorem row97 (u : TypeId) (h : Tryd.prog.typeName? 3 u = some "*errors.errorString") : u = 97 :=
  typeName_ptr_named (nm := "errors.errorString") (by rw [star97]; kernel_rfl) (by kernel_rfl) (by decide) u (by rw [star97]; exact h)
theorem Tryd.cells99 : Tryd.prog.cellsOf 99 = 1 := by kernel_rfl
theorem Tryd.cells9 : Tryd.prog.cellsOf 9 = 1 := by kernel_rfl
theorem tab_errs {W : World} (h : laidMetH Tryd.prog Rows.hlcTextsRow.laid W) : Tab W ∧ Errs W := by
  have h2 := laid_plain (by kernel_rfl) h
  have h3 : laidMet Tryd.prog (("internal/strconv.uint64pow10", Lib.tabData .u64 Lib.pow10Tab) :: ("strconv.ErrRange", Rows.laid_strconv_ErrRange) :: ("strconv.ErrSyntax", Rows.laid_strconv_ErrSyntax) :: []) W := h2.tail.tail
  refine ⟨Lib.tabIs_of_head (g := 2) (t := 90) (e := 76) (n := 20) (by kernel_rfl) (by kernel_rfl) Tryd.underlying90 Tryd.underlying76 (by kernel_rfl) (by kernel_rfl) h3, ?_, ?_⟩
  · obtain ⟨a, s, hv, -⟩ := laid_sentinel h3.tail.tail gES gEST Tryd.underlying63 row97 Tryd.underlying97 Tryd.underlying99 rfl rfl Tryd.underlying9 Tryd.cells99 Tryd.cells9
    exact ⟨_, _, hv⟩
  · obtain ⟨a, s, hv, -⟩ := laid_sentinel h3.tail gER gERT Tryd.underlying63 row97 Tryd.underlying97 Tryd.underlying99 rfl rfl Tryd.underlying9 Tryd.cells99 Tryd.cells9
    exact ⟨_, _, hv⟩

end Go.Proofs.YtioebjimkainjaaDoor
