/- Pairs and queries, plainly. -/
import Derived.Test.YtainemoobhkeiaaDoorN1
set_option linter.unusedSimpArgs false
set_option linter.unusedVariables false
namespace Go.Proofs.YtainemoobhkeiaaDoor
open Sx

structure Pair where
  key : List UInt8
  val : Val
  deriving DecidableEq
structure Query where
  fr : List UInt8
  to : List UInt8
  kind : Int
  lo : Val
  hi : Val
  back : Bool
  most : Int
  after : List UInt8
theorem Val.eta (v : Val) : (⟨v.kind, v.num, v.text⟩ : Val) = v := rfl
def matchQ (q : Query) (p : Pair) : Bool :=
  !Op.bytesLess p.key q.fr && (decide (q.to = []) || Op.bytesLess p.key q.to) && mayV p.val && (decide (q.kind = 0) || decide (p.val.kind = q.kind)) && mayV q.lo && mayV q.hi &&
    (decide (q.lo.kind = 0) || decide (cmpV q.lo p.val ≤ 0)) && (decide (q.hi.kind = 0) || decide (cmpV p.val q.hi ≤ 0))

end Go.Proofs.YtainemoobhkeiaaDoor
