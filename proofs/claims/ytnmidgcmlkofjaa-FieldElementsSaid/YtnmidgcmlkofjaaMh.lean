/- The operations by tables are those of the field of residues. Plain algebra, no program in sight. No conditions. -/
import Derived.Test.YtnmidgcmlkofjaaMg
import Derived.Test.YtnmidgcmlkofjaaSpe
namespace Cw
open Rg Fd PS

namespace Tabs
variable {G : GFd}
def fs (h : Tabs G) : FS := fsOf G.P G.M G.mod h.shape
theorem qe (h : Tabs G) : G.q = h.fs.P ^ h.fs.m := h.qb.2.2.2.2.2.2
theorem field (h : Tabs G) : FieldP G.P G.M G.mod := by
  obtain ⟨x, h1, h2, h3, _⟩ := h.gen
  refine ⟨h.shape, x, h1, by rw [← h.hq]; exact h2, by rw [← h.hq]; exact h3⟩
theorem irr (h : Tabs G) : Rs.Irr h.fs.mon := (field_irr h.shape).1 h.field
/-- The element that a number stands for. -/
def e (h : Tabs G) (x : Int) : Rs h.fs.mon := h.fs.el (inn G.q x)
theorem ib (h : Tabs G) (x : Int) : 0 ≤ inn G.q x ∧ inn G.q x < h.fs.P ^ h.fs.m := by
  rw [← h.qe]; exact inn_bd (by have := h.qb; omega) x
theorem e_inj (h : Tabs G) {x y : Int} (k : h.e x = h.e y) : inn G.q x = inn G.q y := h.fs.el_inj (h.ib x) (h.ib y) k
theorem e_eq (h : Tabs G) {x y : Int} (hx : 0 ≤ x ∧ x < G.q) (hy : 0 ≤ y ∧ y < G.q) (k : h.e x = h.e y) : x = y := by
  have := h.e_inj k
  rwa [inn_yes hx, inn_yes hy] at this
theorem e_of (h : Tabs G) {x : Int} (hx : 0 ≤ x ∧ x < G.q) : h.e x = h.fs.el x := by unfold e; rw [inn_yes hx]
theorem e_inn (h : Tabs G) (x : Int) : h.e (inn G.q x) = h.e x := by unfold e; rw [inn_inn (by have := h.qb; omega)]
theorem e_zero (h : Tabs G) : h.e 0 = 0 := by rw [h.e_of ⟨by omega, by have := h.qb; omega⟩, FS.el_zero]
theorem e_one (h : Tabs G) : h.e 1 = 1 := by rw [h.e_of ⟨by omega, by have := h.qb; omega⟩, FS.el_one]
theorem e_nz (h : Tabs G) {x : Int} : h.e x = 0 ↔ inn G.q x = 0 := h.fs.el_ne (h.ib x)
theorem add_bd (h : Tabs G) (x y : Int) : 0 ≤ addG G x y ∧ addG G x y < G.q := by
  rw [h.qe]; exact addD_bd h.fs.pos h.fs.m _ _
theorem neg_bd (h : Tabs G) (x : Int) : 0 ≤ negG G x ∧ negG G x < G.q := by
  rw [h.qe]; exact negD_bd h.fs.pos h.fs.m _
theorem e_add (h : Tabs G) (x y : Int) : h.e (addG G x y) = h.e x + h.e y := by
  rw [h.e_of (h.add_bd x y)]
  exact h.fs.el_add _ _
theorem e_neg (h : Tabs G) (x : Int) : h.e (negG G x) = -h.e x := by
  rw [h.e_of (h.neg_bd x)]
  exact h.fs.el_neg _
/-- The generator. -/
theorem genE (h : Tabs G) : ∃ g : Rs h.fs.mon, pw g (G.q.toNat - 1) = 1 ∧ (∀ i, i < G.exp.length → h.e (G.exp.getD i 0) = pw g i) := by
  obtain ⟨x, h1, h2, h3, h4⟩ := h.gen
  have hq := h.qe
  have hx : 0 ≤ x ∧ x < h.fs.P ^ h.fs.m := ⟨by omega, by rw [← hq]; exact h2⟩
  rw [hq] at h3
  obtain ⟨g1, _⟩ := h.fs.gen_all hx h3
  obtain ⟨j, j1, j2, _⟩ := h.fs.powL_it hx
  have j2' : G.exp = (List.range (j + 1)).map (h.fs.it x) := h4.trans j2
  refine ⟨h.fs.el x, by rw [hq]; exact g1, fun i hi => ?_⟩
  rw [j2'] at hi
  have hi' : i < j + 1 := by simpa using hi
  have e1 : G.exp.getD i 0 = h.fs.it x i := by
    rw [j2', List.getD_eq_getElem?_getD, List.getElem?_map, List.getElem?_range hi']; rfl
  rw [e1, h.e_of (by have := h.fs.it_bd x i; rw [← hq] at this; exact this), FS.el_it]
theorem exp_bd (h : Tabs G) (i : Int) : 0 ≤ expG G i ∧ expG G i < G.q ∧ expG G i ≠ 0 := by
  obtain ⟨q1, q2, _⟩ := h.qb
  have hl := h.elen
  have m0 := Int.emod_nonneg i (show G.q - 1 ≠ 0 by omega)
  have m1 := Int.emod_lt_of_pos i (show 0 < G.q - 1 by omega)
  have hi : (i % (G.q - 1)).toNat < G.exp.length := by omega
  unfold expG
  have := h.ebd (G.exp.getD (i % (G.q - 1)).toNat 0) (by simp only [List.getD, List.getElem?_eq_getElem hi, Option.getD_some]; exact List.getElem_mem _)
  omega
theorem mul_bd (h : Tabs G) (x y : Int) : 0 ≤ mulG G x y ∧ mulG G x y < G.q := by
  unfold mulG
  split
  · have := h.qb; omega
  · have := h.exp_bd (logG G (inn G.q x) + logG G (inn G.q y)); omega
/-- Logarithms and powers. -/
theorem e_exp (h : Tabs G) : ∃ g : Rs h.fs.mon, pw g (G.q.toNat - 1) = 1 ∧ (∀ i : Int, 0 ≤ i → h.e (expG G i) = pw g i.toNat) ∧ (∀ x, inn G.q x ≠ 0 → 0 ≤ logG G (inn G.q x) ∧ logG G (inn G.q x) < G.q - 1 ∧ h.e x = pw g (logG G (inn G.q x)).toNat) := by
  obtain ⟨g, g1, g2⟩ := h.genE
  obtain ⟨q1, q2, _⟩ := h.qb
  have hl := h.elen
  refine ⟨g, g1, fun i hi => ?_, fun x hx => ?_⟩
  · have m0 := Int.emod_nonneg i (show G.q - 1 ≠ 0 by omega)
    have m1 := Int.emod_lt_of_pos i (show 0 < G.q - 1 by omega)
    unfold expG
    rw [g2 _ (by omega), pw_mod g1 i.toNat]
    congr 1
    obtain ⟨n, rfl⟩ := Int.eq_ofNat_of_zero_le hi
    have : G.q - 1 = ((G.q.toNat - 1 : Nat) : Int) := by omega
    rw [this, ← Int.natCast_emod, Int.toNat_natCast, Int.toNat_natCast]
  · have hb := inn_bd (q := G.q) (by omega) x
    obtain ⟨i, i1, i2, i3⟩ := h.logOf (z := inn G.q x) (by omega) hb.2
    have e1 : logG G (inn G.q x) = i := i3
    rw [e1]
    refine ⟨by omega, by omega, ?_⟩
    rw [← h.e_inn, ← i2, g2 i i1]
    simp
theorem e_mul (h : Tabs G) (x y : Int) : h.e (mulG G x y) = h.e x * h.e y := by
  unfold mulG
  by_cases hz : inn G.q x = 0 ∨ inn G.q y = 0
  · rw [if_pos hz, e_zero]
    rcases hz with hz | hz
    · rw [h.e_nz.2 hz, zero_mul]
    · rw [h.e_nz.2 hz, mul_zero]
  · rw [if_neg hz]
    obtain ⟨g, g1, g2, g3⟩ := h.e_exp
    obtain ⟨a0, a1, a2⟩ := g3 x (fun e => hz (.inl e))
    obtain ⟨b0, b1, b2⟩ := g3 y (fun e => hz (.inr e))
    rw [g2 _ (by omega), a2, b2, ← pw_add]
    congr 1
    omega
/-- The product by tables is that of the polynomials. -/
theorem mul_mulS (h : Tabs G) (x y : Int) : mulG G x y = mulS G.P G.M.toNat G.mod (inn G.q x) (inn G.q y) := by
  have hb := h.fs.mul_bd (inn G.q x) (inn G.q y)
  rw [← h.qe] at hb
  have hb : 0 ≤ mulS G.P G.M.toNat G.mod (inn G.q x) (inn G.q y) ∧ mulS G.P G.M.toNat G.mod (inn G.q x) (inn G.q y) < G.q := hb
  refine h.e_eq (h.mul_bd x y) hb ?_
  rw [h.e_mul, h.e_of hb]
  exact (h.fs.el_mul _ _).symm

theorem add_comm (h : Tabs G) (x y : Int) : addG G x y = addG G y x := h.e_eq (h.add_bd _ _) (h.add_bd _ _) (by rw [e_add, e_add, Rg.add_comm])
theorem mul_comm (h : Tabs G) (x y : Int) : mulG G x y = mulG G y x := h.e_eq (h.mul_bd _ _) (h.mul_bd _ _) (by rw [e_mul, e_mul, Rg.mul_comm])
theorem add_assoc (h : Tabs G) (x y z : Int) : addG G (addG G x y) z = addG G x (addG G y z) := h.e_eq (h.add_bd _ _) (h.add_bd _ _) (by rw [e_add, e_add, e_add, e_add, Rg.add_assoc])
theorem mul_assoc (h : Tabs G) (x y z : Int) : mulG G (mulG G x y) z = mulG G x (mulG G y z) := h.e_eq (h.mul_bd _ _) (h.mul_bd _ _) (by rw [e_mul, e_mul, e_mul, e_mul, Rg.mul_assoc])
theorem mul_add (h : Tabs G) (x y z : Int) : mulG G x (addG G y z) = addG G (mulG G x y) (mulG G x z) := h.e_eq (h.mul_bd _ _) (h.add_bd _ _) (by rw [e_mul, e_add, e_add, e_mul, e_mul, Rg.mul_add])
theorem add_zero (h : Tabs G) (x : Int) : addG G x 0 = inn G.q x := h.e_eq (h.add_bd _ _) (inn_bd (by have := h.qb; omega) x) (by rw [e_add, e_zero, Rg.add_zero, e_inn])
theorem mul_one (h : Tabs G) (x : Int) : mulG G x 1 = inn G.q x := h.e_eq (h.mul_bd _ _) (inn_bd (by have := h.qb; omega) x) (by rw [e_mul, e_one, Rg.mul_one, e_inn])
end Tabs
end Cw
