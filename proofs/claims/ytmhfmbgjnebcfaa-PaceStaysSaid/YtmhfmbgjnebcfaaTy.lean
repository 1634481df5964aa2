/- The translation, and the laws of the walks. -/
import Derived.Test.YtmhfmbgjnebcfaaChecked
import Derived.Test.YtmhfmbgjnebcfaaSxS
set_option linter.unusedSimpArgs false
set_option linter.unusedVariables false
namespace Go.Proofs.Ytmhfmbgjnebcfaa
end Go.Proofs.Ytmhfmbgjnebcfaa
