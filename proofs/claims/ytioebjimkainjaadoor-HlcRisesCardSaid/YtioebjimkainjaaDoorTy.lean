/- The translation, and the laws of the walks. -/
import Derived.Test.YtioebjimkainjaaDoorChecked
import Derived.Test.YtioebjimkainjaaDoorSxN
set_option linter.unusedSimpArgs false
set_option linter.unusedVariables false
namespace Go.Proofs.YtioebjimkainjaaDoor
end Go.Proofs.YtioebjimkainjaaDoor
