/- The table of powers, out of the row. -/
import Derived.Test.YtioebjimkainjaaDoorL0
import Derived.Test.YtioebjimkainjaaDoorW7
import Derived.Test.YtioebjimkainjaaDoorRows
set_option linter.unusedSimpArgs false
set_option linter.unusedVariables false
namespace Go.Proofs.YtioebjimkainjaaDoor
open Sx Go.ChangeShapes Go.WideShapes Go.ChangeAt Go.RowKit

theorem tab_pow {W : World} (h : laidMetH Tryd.prog Rows.hlcStampsRow.laid W) : Tab W := by
  have h2 := laid_plain (by kernel_rfl) h
  have h3 : laidMet Tryd.prog [("internal/strconv.uint64pow10", Lib.tabData .u64 Lib.pow10Tab)] W := h2.tail.tail
  exact Lib.tabIs_of_head (g := 2) (t := 90) (e := 76) (n := 20) (by kernel_rfl) (by kernel_rfl) Tryd.underlying90 Tryd.underlying76 (by kernel_rfl) (by kernel_rfl) h3

end Go.Proofs.YtioebjimkainjaaDoor
