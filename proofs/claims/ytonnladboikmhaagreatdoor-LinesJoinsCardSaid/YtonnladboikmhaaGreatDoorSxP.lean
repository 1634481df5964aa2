/- Reading structs and texts out of arguments; the way from a walk to a row that lists tables. -/
import Derived.Test.YtonnladboikmhaaGreatDoorSxO
import Derived.LaidMore
import Derived.Stop.Joined
import Derived.Lib.LaidTab
import Derived.Stop.LaidErr
namespace Go.Sx
open Go.ChangeShapes Go.WideShapes Go.ChangeAt Go.RowKit
section
variable {H:Type} {enc:TypeId × Value→H} {P:Program} {w:World} {base:Nat} {spare:Nat→Bool} {held:Bool}
theorem laid_plain {laid:List (String × DataW Unit)} {W:World} (hp:(laid.all fun x=>x.2.handleName?.isNone) = true) (h:laidMetH P laid W):laidMet P laid W:=by
  rwa [MakeChecks.laidMetH_plain _ _ _ hp] at h
end
end Go.Sx
