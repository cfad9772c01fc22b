/- The walks of Gcd and PowMod of polynomials. Conditions: the field lies in memory with its tables; lengths are bounded. -/
import Derived.Test.YtmnbcnbhnclkhaaKf
import Derived.Test.YtmnbcnbhnclkhaaKw
namespace Go.Proofs.Ytmnbcnbhnclkhaa
open Go.RowKit Cw

def lenV : Value → Nat | .slice _ n _ => n | _ => 0
theorem e_one_c {G : GFd} (t : Tabs G) : Pl.c (t.e 1) = 1 := by rw [t.e_one, Pl.c_one]

end Go.Proofs.Ytmnbcnbhnclkhaa
