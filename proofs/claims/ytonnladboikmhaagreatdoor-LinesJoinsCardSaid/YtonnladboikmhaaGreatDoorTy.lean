/- The translation, and the laws of the walks. -/
import Derived.Test.YtonnladboikmhaaGreatDoorChecked
import Derived.Test.YtonnladboikmhaaGreatDoorSx9
import Derived.Test.YtonnladboikmhaaGreatDoorSx5
set_option linter.unusedSimpArgs false
set_option linter.unusedVariables false
namespace Go.Proofs.YtonnladboikmhaaGreatDoor
end Go.Proofs.YtonnladboikmhaaGreatDoor
