/- The reference's natural numbers: Order, Product, Mul. The reference's natural numbers: Product, Mul. -/
import Derived.Test.YtehifkdfbiebfaaDoorK08
import Derived.OwnWalk
import Derived.BigQuiet
namespace Go.Proofs.YtehifkdfbiebfaaDoor
open Go.RowKit

end Go.Proofs.YtehifkdfbiebfaaDoor
namespace Go.Proofs.YtehifkdfbiebfaaDoor
open Go.RowKit

end Go.Proofs.YtehifkdfbiebfaaDoor
