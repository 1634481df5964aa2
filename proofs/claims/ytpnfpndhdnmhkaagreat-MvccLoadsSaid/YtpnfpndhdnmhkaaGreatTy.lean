/- The translation, and the laws of the walks. -/
import Derived.Test.YtpnfpndhdnmhkaaGreatChecked
import Derived.Test.YtpnfpndhdnmhkaaGreatSx5
set_option linter.unusedSimpArgs false
set_option linter.unusedVariables false
namespace Go.Proofs.YtpnfpndhdnmhkaaGreat
end Go.Proofs.YtpnfpndhdnmhkaaGreat
