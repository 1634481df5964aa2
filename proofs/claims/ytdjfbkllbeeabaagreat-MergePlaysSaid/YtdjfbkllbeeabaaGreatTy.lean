/- The translation, and the laws of the walks. -/
import Derived.Test.YtdjfbkllbeeabaaGreatChecked
import Derived.Test.YtdjfbkllbeeabaaGreatSx3
set_option linter.unusedSimpArgs false
set_option linter.unusedVariables false
namespace Go.Proofs.YtdjfbkllbeeabaaGreat
end Go.Proofs.YtdjfbkllbeeabaaGreat
