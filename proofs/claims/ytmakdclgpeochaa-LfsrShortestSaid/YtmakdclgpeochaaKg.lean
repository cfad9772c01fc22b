/- The walks of Eval, FromRoots and Derivative of polynomials. Conditions: the field lies in memory with its tables; lengths are bounded. -/
import Derived.Test.YtmakdclgpeochaaKf
import Derived.Test.YtmakdclgpeochaaKw
import Derived.Test.YtmakdclgpeochaaGf
namespace Go.Proofs.Ytmakdclgpeochaa
open Go.RowKit Cw

theorem pl_der {G : GFd} (t : Tabs G) {p us : List Int} (hu : us.length + 1 = p.length) (h : ∀ i, i < us.length → us.getD i 0 = mulG G (((i : Int) + 1) % G.P) (p.getD (i + 1) 0)) : t.pl us = Pl.der (t.pl p) := Pl.ext (PS.ext fun i => by
  show t.e (us.getD i 0) = nsm (i + 1) (t.e (p.getD (i + 1) 0))
  by_cases hi : i < us.length
  · rw [h i hi, t.e_mul, nsm_mul', show ((i : Int) + 1) = ((i + 1 : Nat) : Int) by omega, t.e_mod]
  · rw [ld_out (by omega), ld_out (by omega), t.e_zero, nsm_nil])
end Go.Proofs.Ytmakdclgpeochaa
