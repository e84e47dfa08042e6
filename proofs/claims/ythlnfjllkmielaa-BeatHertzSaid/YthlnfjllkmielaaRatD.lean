/- Rational: combine, Add, Sub, Mul, Div. -/
import Derived.Test.YthlnfjllkmielaaRatC
namespace Go.Proofs.Ythlnfjllkmielaa
open Go.RowKit

theorem hmkf : ∀ (fn : Fn) (first cap : Array Value) (w : World), (Instr.makeFunc fn first cap).run Try.prog w = .ok (.func fn first cap) w := fun _ _ _ _ => rfl

def addV (an ad bn bd : Int) : Value := if vR an ad && vR bn bd then mkV (an * bd + bn * ad) (ad * bd) else .tuple #[.agg #[.int .i64 0, .int .i64 0], .int .i64 1]

def subV (an ad bn bd : Int) : Value := if vR an ad && vR bn bd then mkV (an * bd - bn * ad) (ad * bd) else .tuple #[.agg #[.int .i64 0, .int .i64 0], .int .i64 1]

def mulV (an ad bn bd : Int) : Value := if vR an ad && vR bn bd then mkV (an * bn) (ad * bd) else .tuple #[.agg #[.int .i64 0, .int .i64 0], .int .i64 1]

def divV (an ad bn bd : Int) : Value := if vR an ad && vR bn bd then mkV (an * bd) (ad * bn) else .tuple #[.agg #[.int .i64 0, .int .i64 0], .int .i64 1]

end Go.Proofs.Ythlnfjllkmielaa
