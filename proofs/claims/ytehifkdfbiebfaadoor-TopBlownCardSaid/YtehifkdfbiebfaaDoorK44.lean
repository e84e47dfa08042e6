/- Pieces of a function's code by their path. -/
import Derived.Test.YtehifkdfbiebfaaDoorK37
import Derived.Deep.Cut
namespace Go.Proofs.YtehifkdfbiebfaaDoor
open Go Go.RowKit

/-- The part of a code at the end of a path. -/
def at_ : List Nat → Code → Code
  | [], c => c
  | 0 :: p, .seq a _ => at_ p a
  | 1 :: p, .seq _ b => at_ p b
  | _ :: p, .block _ c => at_ p c
  | _ :: p, .loop c => at_ p c
  | _ :: p, .scope c => at_ p c
  | 1 :: p, .cond _ a _ => at_ p a
  | 2 :: p, .cond _ _ b => at_ p b
  | 0 :: p, .rangeFunc _ _ a _ => at_ p a
  | 1 :: p, .rangeFunc _ _ _ b => at_ p b
  | _, _ => .skip
end Go.Proofs.YtehifkdfbiebfaaDoor
