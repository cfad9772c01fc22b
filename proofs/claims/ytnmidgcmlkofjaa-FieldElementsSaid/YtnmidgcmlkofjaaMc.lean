/- The integers modulo a prime are a field: plain algebra, no program in sight. No conditions. -/
import Derived.Test.YtnmidgcmlkofjaaMb
import Derived.Test.YtnmidgcmlkofjaaSpec
namespace Cw
open Rg

/-- A prime. -/
structure PrS where
  p : Int
  pr : Prm p
theorem PrS.two (R : PrS) : 2 ≤ R.p := R.pr.1

/-- The integers modulo p. -/
structure Zp (R : PrS) where
  v : Int
  lo : 0 ≤ v
  hi : v < R.p

namespace Zp
variable {R : PrS}
theorem ext {a b : Zp R} (h : a.v = b.v) : a = b := by cases a; cases b; cases h; rfl
def mk' (R : PrS) (x : Int) : Zp R := ⟨x % R.p, Int.emod_nonneg _ (by have := R.two; omega), Int.emod_lt_of_pos _ (by have := R.two; omega)⟩
theorem mk_v (x : Int) : (mk' R x).v = x % R.p := rfl
theorem mk_eq {x y : Int} : mk' R x = mk' R y ↔ x % R.p = y % R.p := ⟨fun h => congrArg Zp.v h, fun h => ext h⟩
theorem v_mod (a : Zp R) : a.v % R.p = a.v := Int.emod_eq_of_lt a.lo a.hi
theorem mk_of (a : Zp R) : mk' R a.v = a := ext (v_mod a)
theorem ex (a : Zp R) : ∃ x, a = mk' R x := ⟨a.v, (mk_of a).symm⟩

instance : Zero (Zp R) := ⟨mk' R 0⟩
instance : One (Zp R) := ⟨mk' R 1⟩
instance : Add (Zp R) := ⟨fun a b => mk' R (a.v + b.v)⟩
instance : Mul (Zp R) := ⟨fun a b => mk' R (a.v * b.v)⟩
instance : Neg (Zp R) := ⟨fun a => mk' R (-a.v)⟩
instance : Sub (Zp R) := ⟨fun a b => mk' R (a.v - b.v)⟩

theorem mk_zero : mk' R 0 = 0 := rfl
theorem mk_one : mk' R 1 = 1 := rfl
theorem mk_add (x y : Int) : mk' R x + mk' R y = mk' R (x + y) := mk_eq.2 (by rw [mk_v, mk_v, ← Int.add_emod])
theorem mk_mul (x y : Int) : mk' R x * mk' R y = mk' R (x * y) := mk_eq.2 (by rw [mk_v, mk_v, ← Int.mul_emod])
theorem mk_neg (x : Int) : -mk' R x = mk' R (-x) := mk_eq.2 (by
  rw [mk_v]
  have := Int.sub_emod 0 x R.p
  have h2 := Int.sub_emod 0 (x % R.p) R.p
  rw [Int.emod_emod] at h2
  rw [Int.zero_sub] at this h2
  rw [this, h2])
theorem mk_sub (x y : Int) : mk' R x - mk' R y = mk' R (x - y) := mk_eq.2 (by rw [mk_v, mk_v, ← Int.sub_emod])
theorem mk_p : mk' R R.p = 0 := mk_eq.2 (by simp)
theorem mk_pmul (x : Int) : mk' R (R.p * x) = 0 := mk_eq.2 (by simp)

instance : Rg (Zp R) where
  add_assoc a b c := by
    obtain ⟨x, rfl⟩ := ex a; obtain ⟨y, rfl⟩ := ex b; obtain ⟨z, rfl⟩ := ex c
    simp only [mk_add, Int.add_assoc]
  add_comm a b := by
    obtain ⟨x, rfl⟩ := ex a; obtain ⟨y, rfl⟩ := ex b
    rw [mk_add, mk_add, Int.add_comm]
  add_zero a := by
    obtain ⟨x, rfl⟩ := ex a
    rw [← mk_zero, mk_add, Int.add_zero]
  add_neg a := by
    obtain ⟨x, rfl⟩ := ex a
    rw [mk_neg, mk_add, Int.add_right_neg, mk_zero]
  sub_def a b := by
    obtain ⟨x, rfl⟩ := ex a; obtain ⟨y, rfl⟩ := ex b
    rw [mk_neg, mk_add, mk_sub, Int.sub_eq_add_neg]
  mul_assoc a b c := by
    obtain ⟨x, rfl⟩ := ex a; obtain ⟨y, rfl⟩ := ex b; obtain ⟨z, rfl⟩ := ex c
    simp only [mk_mul, Int.mul_assoc]
  mul_comm a b := by
    obtain ⟨x, rfl⟩ := ex a; obtain ⟨y, rfl⟩ := ex b
    rw [mk_mul, mk_mul, Int.mul_comm]
  mul_one a := by
    obtain ⟨x, rfl⟩ := ex a
    rw [← mk_one, mk_mul, Int.mul_one]
  mul_add a b c := by
    obtain ⟨x, rfl⟩ := ex a; obtain ⟨y, rfl⟩ := ex b; obtain ⟨z, rfl⟩ := ex c
    simp only [mk_add, mk_mul, Int.mul_add]

theorem zero_v : (0 : Zp R).v = 0 := by show 0 % R.p = 0; simp
theorem one_v : (1 : Zp R).v = 1 := Int.emod_eq_of_lt (by omega) (by have := R.two; omega)
theorem add_v (a b : Zp R) : (a + b).v = (a.v + b.v) % R.p := rfl
theorem mul_v (a b : Zp R) : (a * b).v = (a.v * b.v) % R.p := rfl
theorem neg_v (a : Zp R) : (-a).v = (-a.v) % R.p := rfl
theorem sub_v (a b : Zp R) : (a - b).v = (a.v - b.v) % R.p := rfl
theorem ne_zero {a : Zp R} (h : a ≠ 0) : a.v ≠ 0 := fun e => h (ext (e.trans zero_v.symm))

/-- Every element but 0 has an inverse. -/
theorem inv_ex : ∀ (n : Nat) (x : Int), 1 ≤ x → x < R.p → x.toNat ≤ n → ∃ b : Zp R, mk' R x * b = 1 := by
  intro n
  induction n with
  | zero => intro x h1 h2 h3; omega
  | succ n ih =>
    intro x h1 h2 h3
    by_cases e : x = 1
    · exact ⟨1, by rw [e, mk_one, mul_one]⟩
    · have r0 := R.pr.2 x (by omega) h2
      have r1 := Int.emod_nonneg R.p (show x ≠ 0 by omega)
      have r2 := Int.emod_lt_of_pos R.p (show 0 < x by omega)
      obtain ⟨b, hb⟩ := ih (R.p % x) (by omega) (by omega) (by omega)
      refine ⟨-(mk' R (R.p / x) * b), ?_⟩
      rw [mul_neg, ← mul_assoc, mk_mul]
      have e2 : x * (R.p / x) = R.p - R.p % x := by have := Int.mul_ediv_add_emod R.p x; omega
      rw [e2, ← mk_sub, mk_p, zero_sub, neg_mul, neg_neg, hb]
theorem inv_ex' (a : Zp R) (h : a ≠ 0) : ∃ b, a * b = 1 := by
  have := inv_ex a.v.toNat a.v (by have := a.lo; have := ne_zero h; omega) a.hi (by omega)
  rwa [mk_of] at this
open Classical in
noncomputable instance : Fd (Zp R) where
  inv a := if h : a ≠ 0 then (inv_ex' a h).choose else 0
  mul_inv a h := by
    rw [dif_pos h]
    exact (inv_ex' a h).choose_spec
  one_ne h := by
    have := congrArg Zp.v h
    rw [one_v, zero_v] at this
    omega
end Zp
end Cw
