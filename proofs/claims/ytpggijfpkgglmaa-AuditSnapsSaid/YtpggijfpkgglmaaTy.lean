/- The translation, and the laws of the walks. -/
import Derived.Test.YtpggijfpkgglmaaChecked
import Derived.Test.YtpggijfpkgglmaaSx1
set_option linter.unusedSimpArgs false
set_option linter.unusedVariables false
namespace Go.Proofs.Ytpggijfpkgglmaa
end Go.Proofs.Ytpggijfpkgglmaa
