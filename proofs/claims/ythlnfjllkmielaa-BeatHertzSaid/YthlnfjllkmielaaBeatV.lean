/- Beat: the parts of what Set and Rate return. -/
import Derived.Test.YthlnfjllkmielaaBeatE
namespace Go.Proofs.Ythlnfjllkmielaa
open Go.RowKit

/-- The parts of what Set returns. -/
def seE (fn fd p q rn rd : Int) (above : Bool) : Int := if seG fn fd p q rn rd then (if maE sdV (seN fn fd p rn rd above) (q * fd * rd) then 0 else 3) else 1
def seX (fn fd p q rn rd : Int) (above : Bool) : Int := if seG fn fd p q rn rd then (if maE sdV (seN fn fd p rn rd above) (q * fd * rd) then mkN (seN fn fd p rn rd above) (q * fd * rd) else 0) else 0
def seY (fn fd p q rn rd : Int) (above : Bool) : Int := if seG fn fd p q rn rd then (if maE sdV (seN fn fd p rn rd above) (q * fd * rd) then mkD (seN fn fd p rn rd above) (q * fd * rd) else 0) else 0
theorem seV_eq (fn fd p q rn rd : Int) (above : Bool) : seV fn fd p q rn rd above = .tuple #[.agg #[.int .i64 (seX fn fd p q rn rd above), .int .i64 (seY fn fd p q rn rd above)], .int .i64 (seE fn fd p q rn rd above)] := by
  unfold seV seX seY seE
  cases seG fn fd p q rn rd <;> rfl
/-- The parts of what made returns. -/
def maN (t : Int → Int → Bool) (n d : Int) : Int := if maE t n d then mkN n d else 0
def maD (t : Int → Int → Bool) (n d : Int) : Int := if maE t n d then mkD n d else 0
def maK (t : Int → Int → Bool) (n d : Int) : Int := if maE t n d then 0 else 3
theorem maV_eq (t : Int → Int → Bool) (n d : Int) : maV t n d = .tuple #[.agg #[.int .i64 (maN t n d), .int .i64 (maD t n d)], .int .i64 (maK t n d)] := rfl
/-- The parts of what Rate returns. -/
def raX (fn fd gn gd p q : Int) : Int := if raG fn fd gn gd p q then maN rtV (raN fn fd gn gd p q) (fd * gd) else 0
def raY (fn fd gn gd p q : Int) : Int := if raG fn fd gn gd p q then maD rtV (raN fn fd gn gd p q) (fd * gd) else 0
def raE (fn fd gn gd p q : Int) : Int := if raG fn fd gn gd p q then maK rtV (raN fn fd gn gd p q) (fd * gd) else 1
theorem raV_eq (fn fd gn gd p q : Int) : raV fn fd gn gd p q = .tuple #[.agg #[.int .i64 (raX fn fd gn gd p q), .int .i64 (raY fn fd gn gd p q)], .int .i64 (raE fn fd gn gd p q)] := by
  unfold raV raX raY raE
  cases raG fn fd gn gd p q <;> rfl
end Go.Proofs.Ythlnfjllkmielaa
