/- The translation, and the laws of the walks. -/
import Derived.Test.YtainemoobhkeiaaDoorChecked
import Derived.Test.YtainemoobhkeiaaDoorSx1
set_option linter.unusedSimpArgs false
set_option linter.unusedVariables false
namespace Go.Proofs.YtainemoobhkeiaaDoor
end Go.Proofs.YtainemoobhkeiaaDoor
