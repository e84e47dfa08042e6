/- The call returns a value and leaves the world as it is. -/
import Derived.Test.YtgbiiaaeabflnaaDoorBase
import Derived.Test.YtgbiiaaeabflnaaDoorRegion
namespace Go.Proofs.YtgbiiaaeabflnaaDoor
open Go.RowKit

/-- The call returns v and leaves the world as it is. -/
def RetS (v : Value) (w : World) (e : Ending) (w' : World) : Prop := e = .returned v ∧ w = w'
def absF (n : Int) : Nat := n.natAbs
end Go.Proofs.YtgbiiaaeabflnaaDoor
