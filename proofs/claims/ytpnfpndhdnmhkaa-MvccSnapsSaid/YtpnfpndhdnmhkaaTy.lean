/- The translation, and the laws of the walks. -/
import Derived.Test.YtpnfpndhdnmhkaaChecked
import Derived.Test.YtpnfpndhdnmhkaaSx4
set_option linter.unusedSimpArgs false
set_option linter.unusedVariables false
namespace Go.Proofs.Ytpnfpndhdnmhkaa
end Go.Proofs.Ytpnfpndhdnmhkaa
