/- The translation, and the laws of the walks. -/
import Derived.Test.YtdjfbkllbeeabaaChecked
import Derived.Test.YtdjfbkllbeeabaaSx3
set_option linter.unusedSimpArgs false
set_option linter.unusedVariables false
namespace Go.Proofs.Ytdjfbkllbeeabaa
end Go.Proofs.Ytdjfbkllbeeabaa
