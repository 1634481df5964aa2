/- The translation, and the laws of the walks. -/
import Derived.Test.YtakjfnckbidbcaaChecked
import Derived.Test.YtakjfnckbidbcaaSxW
set_option linter.unusedSimpArgs false
set_option linter.unusedVariables false
namespace Go.Proofs.Ytakjfnckbidbcaa
end Go.Proofs.Ytakjfnckbidbcaa
