/- (This round has no rational numbers: for the imports alone.) -/
import Derived.Test.YtgbiiaaeabflnaaDoorRatA
import Derived.Recover
namespace Go.Proofs.YtgbiiaaeabflnaaDoor
end Go.Proofs.YtgbiiaaeabflnaaDoor
