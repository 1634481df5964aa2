/- Floats of 64 bits: rounding is monotone, and a number of the format stays. -/
import Derived.Test.YtpnfpndhdnmhkaaGreatSxR
set_option linter.unusedSimpArgs false
set_option linter.unusedVariables false
namespace Go.Sx
end Go.Sx
