/- Inverses and quotients by tables. Plain algebra, no program in sight. No conditions. -/
import Derived.Test.YtnmidgcmlkofjaaMn
namespace Cw
open Rg Fd PS
namespace Tabs
variable {G : GFd}
theorem inv_bd (h : Tabs G) (y : Int) : 0 ≤ invG G y ∧ invG G y < G.q := by
  unfold invG
  split
  · have := h.qb; omega
  · have := h.exp_bd (G.q - 1 - logG G (inn G.q y)); omega
theorem e_inv (h : Tabs G) {y : Int} (hy : inn G.q y ≠ 0) : h.e (invG G y) * h.e y = 1 := by
  obtain ⟨g, g1, g2, g3⟩ := h.e_exp
  obtain ⟨a0, a1, a2⟩ := g3 y hy
  unfold invG
  rw [if_neg hy, g2 _ (by omega), a2, ← pw_add, show (G.q - 1 - logG G (inn G.q y)).toNat + (logG G (inn G.q y)).toNat = G.q.toNat - 1 by omega, g1]
theorem inv_back (h : Tabs G) {y : Int} (hy : inn G.q y ≠ 0) : mulG G (invG G y) (inn G.q y) = 1 := by
  have := h.qb
  exact h.e_eq (h.mul_bd _ _) ⟨by omega, by omega⟩ (by rw [e_mul, e_inn, h.e_inv hy, e_one])
theorem div_back (h : Tabs G) (x : Int) {y : Int} (hy : inn G.q y ≠ 0) : mulG G (mulG G x (invG G y)) (inn G.q y) = inn G.q x := by
  have := h.qb
  exact h.e_eq (h.mul_bd _ _) (inn_bd (by omega) x) (by rw [e_mul, e_mul, e_inn, e_inn, Rg.mul_assoc, h.e_inv hy, Rg.mul_one])
end Tabs
end Cw
