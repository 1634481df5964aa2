/- The translation, and the laws of the walks. -/
import Derived.Test.YtakohabmcgponaaChecked
import Derived.Test.YtakohabmcgponaaSxW
set_option linter.unusedSimpArgs false
set_option linter.unusedVariables false
namespace Go.Proofs.Ytakohabmcgponaa
end Go.Proofs.Ytakohabmcgponaa
