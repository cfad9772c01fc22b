/- The walk of the reference's difference. Conditions: a description of the right shape. -/
import Derived.Test.YtmnbcnbhnclkhaaRg
import Derived.Deep.RegionHeld3
namespace Go.Proofs.Ytmnbcnbhnclkhaa
open Go.RowKit Cw

end Go.Proofs.Ytmnbcnbhnclkhaa
