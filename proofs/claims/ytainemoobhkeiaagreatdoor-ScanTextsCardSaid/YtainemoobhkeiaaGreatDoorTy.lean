/- The translation, and the laws of the walks. -/
import Derived.Test.YtainemoobhkeiaaGreatDoorChecked
import Derived.Test.YtainemoobhkeiaaGreatDoorSx5
set_option linter.unusedSimpArgs false
set_option linter.unusedVariables false
namespace Go.Proofs.YtainemoobhkeiaaGreatDoor
end Go.Proofs.YtainemoobhkeiaaGreatDoor
