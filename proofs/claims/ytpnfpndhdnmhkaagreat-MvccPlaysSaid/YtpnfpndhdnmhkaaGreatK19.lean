/- A store that is loaded, plainly. -/
import Derived.Test.YtpnfpndhdnmhkaaGreatK1
set_option linter.unusedSimpArgs false
set_option linter.unusedVariables false
namespace Go.Proofs.YtpnfpndhdnmhkaaGreat
open Sx
/-! a store that is loaded -/
def verOk : Stp → List Vr → Bool
  | _, [] => true
  | a, v :: r => mayS v.s && decide (ltS a v.s) && mayV v.v && verOk v.s r
end Go.Proofs.YtpnfpndhdnmhkaaGreat
