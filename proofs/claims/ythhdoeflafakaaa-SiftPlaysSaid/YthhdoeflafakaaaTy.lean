/- The translation, and the laws of the walks. -/
import Derived.Test.YthhdoeflafakaaaChecked
import Derived.Test.YthhdoeflafakaaaSx2
set_option linter.unusedSimpArgs false
set_option linter.unusedVariables false
namespace Go.Proofs.Ythhdoeflafakaaa
end Go.Proofs.Ythhdoeflafakaaa
