/- The residues modulo a monic polynomial: a ring, and a field where the polynomial is irreducible: plain algebra, no program in sight. No conditions. -/
import Derived.Test.YtnmidgcmlkofjaaMc
namespace Cw
open Rg Fd PS

/-- A monic polynomial of a positive degree. -/
structure Mon (α : Type) [Fd α] where
  f : PS α
  m : Nat
  hf : dl f (m + 1)
  h1 : f m = 1
  hm : 1 ≤ m

/-- A residue. -/
structure Rs {α : Type} [Fd α] (F : Mon α) where
  a : PS α
  h : dl a F.m

namespace Rs
variable {α : Type} [Fd α] {F : Mon α}
theorem ext {x y : Rs F} (h : x.a = y.a) : x = y := by cases x; cases y; cases h; rfl
theorem hne (F : Mon α) : F.f F.m ≠ 0 := by rw [F.h1]; exact one_ne

/-- Congruent modulo the polynomial. -/
def Cg (F : Mon α) (a b : PS α) : Prop := Dv F.f (a - b)
theorem cg_refl (a : PS α) : Cg F a a := by unfold Cg; rw [sub_self]; exact Dv_zero _
theorem cg_symm {a b : PS α} (h : Cg F a b) : Cg F b a := by unfold Cg; rw [← neg_sub]; exact Dv_neg h
theorem cg_trans {a b c : PS α} (h : Cg F a b) (k : Cg F b c) : Cg F a c := by
  unfold Cg
  have : a - c = (a - b) + (b - c) := by
    simp only [sub_def]
    have : a + -b + (b + -c) = (a + -c) + (-b + b) := by ac_rfl
    rw [this, neg_add, add_zero]
  rw [this]
  exact Dv_add h k
theorem cg_add {a b c d : PS α} (h : Cg F a b) (k : Cg F c d) : Cg F (a + c) (b + d) := by
  unfold Cg
  have : a + c - (b + d) = (a - b) + (c - d) := by simp only [sub_def, neg_add_rev]; ac_rfl
  rw [this]
  exact Dv_add h k
theorem cg_neg {a b : PS α} (h : Cg F a b) : Cg F (-a) (-b) := by
  unfold Cg
  have : -a - -b = -(a - b) := by simp only [sub_def, neg_add_rev]
  rw [this]
  exact Dv_neg h
theorem cg_mul_left {a b : PS α} (c : PS α) {n : Nat} (hc : dl c n) (h : Cg F a b) : Cg F (c * a) (c * b) := by
  unfold Cg
  rw [← mul_sub]
  exact Dv_mul c hc h
theorem cg_mul_right {a b : PS α} (c : PS α) {n : Nat} (hc : dl c n) (h : Cg F a b) : Cg F (a * c) (b * c) := by
  rw [mul_comm a, mul_comm b]; exact cg_mul_left c hc h
theorem cg_self : Cg F F.f 0 := by unfold Cg; rw [sub_zero]; exact Dv_refl _
/-- Only one residue is congruent. -/
theorem cg_eq {a b : PS α} (ha : dl a F.m) (hb : dl b F.m) (h : Cg F a b) : a = b := by
  obtain ⟨q, n, hq, e⟩ := h
  have := mul_low F.hf (hne F) hq (by rw [← e]; exact dl_sub ha hb)
  rw [this, zero_mul] at e
  exact sub_eq_zero e
theorem rem_ex (F : Mon α) {n : Nat} (a : PS α) (ha : dl a n) : ∃ r : Rs F, Cg F a r.a := by
  obtain ⟨q, r, e, hr, hq⟩ := div_ex F.hf (hne F) n a ha
  refine ⟨⟨r, hr⟩, q, _, hq, ?_⟩
  rw [e, add_sub_cancel]

noncomputable def mulR (x y : Rs F) : Rs F := (rem_ex F (x.a * y.a) (dl_mul x.h y.h)).choose
theorem mulR_cg (x y : Rs F) : Cg F (x.a * y.a) (mulR x y).a := (rem_ex F (x.a * y.a) (dl_mul x.h y.h)).choose_spec

noncomputable instance : Zero (Rs F) := ⟨⟨0, dl_zero _⟩⟩
noncomputable instance : One (Rs F) := ⟨⟨1, dl_mono dl_one F.hm⟩⟩
noncomputable instance : Add (Rs F) := ⟨fun x y => ⟨x.a + y.a, dl_add x.h y.h⟩⟩
noncomputable instance : Neg (Rs F) := ⟨fun x => ⟨-x.a, dl_neg x.h⟩⟩
noncomputable instance : Sub (Rs F) := ⟨fun x y => ⟨x.a - y.a, dl_sub x.h y.h⟩⟩
noncomputable instance : Mul (Rs F) := ⟨mulR⟩
theorem zero_a : (0 : Rs F).a = 0 := rfl
theorem one_a : (1 : Rs F).a = 1 := rfl
theorem add_a (x y : Rs F) : (x + y).a = x.a + y.a := rfl
theorem neg_a (x : Rs F) : (-x).a = -x.a := rfl
theorem sub_a (x y : Rs F) : (x - y).a = x.a - y.a := rfl
theorem mul_cg (x y : Rs F) : Cg F (x.a * y.a) (x * y).a := mulR_cg x y
theorem mul_eq {x y z : Rs F} (h : Cg F (x.a * y.a) z.a) : x * y = z := ext (cg_eq (x * y).h z.h (cg_trans (cg_symm (mul_cg x y)) h))

noncomputable instance : Rg (Rs F) where
  add_assoc x y z := ext (add_assoc _ _ _)
  add_comm x y := ext (add_comm _ _)
  add_zero x := ext (add_zero _)
  add_neg x := ext (add_neg _)
  sub_def x y := ext (sub_def _ _)
  mul_assoc x y z := mul_eq (cg_trans (cg_mul_right z.a z.h (cg_symm (mul_cg x y))) (by
    rw [mul_assoc]
    exact cg_trans (cg_mul_left x.a x.h (mul_cg y z)) (mul_cg x (y * z))))
  mul_comm x y := mul_eq (by rw [mul_comm]; exact mul_cg y x)
  mul_one x := mul_eq (by rw [one_a, mul_one]; exact cg_refl _)
  mul_add x y z := mul_eq (by rw [add_a, add_a, mul_add]; exact cg_add (mul_cg x y) (mul_cg x z))

/-- No monic divisor but 1 and itself. -/
def Irr (F : Mon α) : Prop := ∀ (g : PS α) (d : Nat), 1 ≤ d → d < F.m → dl g (d + 1) → g d = 1 → ¬ Dv g F.f

/-- What is not 0 has an inverse. -/
theorem inv_ex (hi : Irr F) : ∀ (n : Nat) (a : PS α), n ≤ F.m → dl a n → a ≠ 0 → ∃ u k, dl u k ∧ Cg F (u * a) 1 := by
  intro n
  induction n using Nat.strongRecOn with
  | ind n ih =>
    intro a hn ha h0
    obtain ⟨d, hd, h1, h2⟩ := deg_ex ha h0
    by_cases hd0 : d = 0
    · subst hd0
      refine ⟨C (inv (a 0)), 1, dl_C _, ?_⟩
      have : C (inv (a 0)) * a = 1 := PS.ext fun i => by
        rw [C_mul_at, one_at]
        split
        · rename_i e; rw [e, inv_mul h2]
        · rw [h1 i (by omega), mul_zero]
      rw [this]
      exact cg_refl _
    · obtain ⟨q, r, e, hr, hq⟩ := div_ex h1 h2 (F.m + 1) F.f F.hf
      by_cases hr0 : r = 0
      · refine absurd ?_ (hi (C (inv (a d)) * a) d (by omega) (by omega) (dl_Cmul _ h1) (by rw [C_mul_at, inv_mul h2]))
        refine ⟨C (a d) * q, _, dl_Cmul _ hq, ?_⟩
        rw [e, hr0, add_zero]
        have : C (a d) * q * (C (inv (a d)) * a) = (C (a d) * C (inv (a d))) * (q * a) := by ac_rfl
        rw [this, ← C_mul, mul_inv _ h2, C_one, one_mul]
      · obtain ⟨u, k, hu, hc⟩ := ih d (by omega) r (by omega) hr hr0
        refine ⟨-(u * q), _, dl_neg (dl_mul hu hq), ?_⟩
        have e1 : -(u * q) * a = u * r - u * F.f := by
          rw [e, mul_add, neg_mul]
          simp only [sub_def, neg_add_rev]
          have : u * r + (-(u * (q * a)) + -(u * r)) = -(u * (q * a)) + (u * r + -(u * r)) := by ac_rfl
          rw [this, add_neg, add_zero, mul_assoc]
        rw [e1]
        refine cg_trans ?_ hc
        have h3 : Cg F (u * F.f) 0 := by
          have := cg_mul_left (F := F) u hu cg_self
          rwa [mul_zero] at this
        have := cg_add (cg_refl (F := F) (u * r)) (cg_neg h3)
        rw [neg_zero, add_zero, ← sub_def] at this
        exact this
theorem inv_ex' (hi : Irr F) (x : Rs F) (h : x ≠ 0) : ∃ y : Rs F, x * y = 1 := by
  obtain ⟨u, k, hu, hc⟩ := inv_ex hi F.m x.a (Nat.le_refl _) x.h (fun e => h (ext e))
  obtain ⟨y, hy⟩ := rem_ex F u hu
  refine ⟨y, mul_eq ?_⟩
  rw [mul_comm]
  exact cg_trans (cg_mul_right x.a x.h (cg_symm hy)) hc
theorem one_ne' : (1 : Rs F) ≠ 0 := fun e => by
  have := congrArg (fun x : Rs F => x.a 0) e
  simp only [one_a, zero_a, one_at, zero_at, if_pos] at this
  exact one_ne this

/-- A divisor leaves divisors of zero. -/
theorem zero_div {g : PS α} {d : Nat} (hd : 1 ≤ d) (hd2 : d < F.m) (hg : dl g (d + 1)) (hg1 : g d = 1) (hv : Dv g F.f) : ∃ x y : Rs F, x ≠ 0 ∧ y ≠ 0 ∧ x * y = 0 := by
  obtain ⟨q, n, hq, e⟩ := hv
  have hq0 : q ≠ 0 := fun h => hne F (by rw [e, h, zero_mul, zero_at])
  obtain ⟨k, _, h1, h2⟩ := deg_ex hq hq0
  have hk : k + d = F.m := by
    have t := mul_top h1 hg
    rw [← e, hg1, mul_one] at t
    rcases Nat.lt_trichotomy (k + d) F.m with h | h | h
    · have := dl_mul' (k := k + d + 1) h1 hg (by omega)
      rw [← e] at this
      exact absurd (this F.m (by omega)) (hne F)
    · exact h
    · rw [F.hf (k + d) (by omega)] at t
      exact absurd t.symm h2
  refine ⟨⟨q, dl_mono h1 (by omega)⟩, ⟨g, dl_mono hg (by omega)⟩, fun h => hq0 (congrArg Rs.a h), fun h => ?_, mul_eq ?_⟩
  · have : g = 0 := congrArg Rs.a h
    rw [this, zero_at] at hg1
    exact one_ne hg1.symm
  · show Cg F (q * g) 0
    rw [← e]
    exact cg_self
end Rs

/-- An irreducible polynomial's residues. -/
structure IMon (α : Type) [Fd α] where
  F : Mon α
  irr : Rs.Irr F

open Classical in
noncomputable instance {α : Type} [Fd α] (F : IMon α) : Fd (Rs F.F) where
  inv x := if hx : x ≠ 0 then (Rs.inv_ex' F.irr x hx).choose else 0
  mul_inv x hx := by
    rw [dif_pos hx]
    exact (Rs.inv_ex' F.irr x hx).choose_spec
  one_ne := Rs.one_ne'
end Cw
