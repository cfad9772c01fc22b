/- What the solver of the key equation hands back, and what it says of other pairs, of registers, of errors and erasures; the value of Forney. Plain algebra. No conditions. -/
import Derived.Test.YtmnbcnbhnclkhaaMwA
import Derived.Test.YtmnbcnbhnclkhaaMwA
namespace Cw
open Rg Fd PS
namespace Pl
variable {α : Type} [Fd α]

/-- The pair that Euclid's algorithm gives for S modulo x^r, where f erasures are known. -/
def SolvP (S L V : Pl α) (r f : Nat) : Prop := ∃ b t, EuEnd (x r) S b t ((r : Int) + f) ∧ t.a 0 ≠ 0 ∧ L = c (inv (t.a 0)) * t ∧ V = c (inv (t.a 0)) * b
/-- There is no pair. -/
def SolvN (S : Pl α) (r f : Nat) : Prop := ∃ b t, EuEnd (x r) S b t ((r : Int) + f) ∧ t.a 0 = 0
/-- The first three properties of a pair. -/
structure PairP (S : Pl α) (r f : Nat) (L V : Pl α) : Prop where
  key : Cg (x r) (L * S) V
  dL : 2 * ((L.ln : Int) - 1) ≤ (r : Int) - f
  dV : 2 * ((V.ln : Int) - 1) < (r : Int) + f
  one : L.a 0 = 1
theorem EuEnd.congr {a0 s s' b t : Pl α} {bound : Int} (h : EuEnd a0 s b t bound) (k : Cg a0 s s') : EuEnd a0 s' b t bound := by
  obtain ⟨a, o, h1, h2, h3, h4⟩ := h.ex
  exact ⟨cg_trans (cg_mul (cg_refl _ _) (cg_symm k)) h.ta, ⟨a, o, cg_trans (cg_mul (cg_refl _ _) (cg_symm k)) h1, h2, h3, h4⟩, h.tn, h.small⟩
theorem Eu.fin {a0 s a b o t : Pl α} {bound : Int} (h : Eu a0 s a b o t) (h1 : bound ≤ 2 * ((a.ln : Int) - 1)) (h2 : 2 * ((b.ln : Int) - 1) < bound) : EuEnd a0 s b t bound :=
  ⟨h.ta, ⟨a, o, h.oa, h.det, h.len, h1⟩, h.tn, h2⟩
theorem SolvP.pair {S L V : Pl α} {r f : Nat} (h : SolvP S L V r f) : PairP S r f L V ∧ Cop L V := by
  obtain ⟨b, t, h, h0, rfl, rfl⟩ := h
  obtain ⟨a, o, h1, h2, h3, h4⟩ := h.ex
  have h5 := h.small
  have hi : inv (t.a 0) ≠ 0 := Fd.inv_ne h0
  rw [ln_x] at h3
  refine ⟨⟨?_, ?_, ?_, ?_⟩, cop_cmul hi hi (eu_cop h h0)⟩
  · rw [mul_assoc]; exact cg_mul (cg_refl _ _) h.ta
  · rw [ln_cmul hi]; omega
  · rw [ln_cmul hi]; exact h5
  · rw [c_mul_at, Fd.inv_mul h0]
theorem SolvN.no {S L V : Pl α} {r f : Nat} (h : SolvN S r f) (k : PairP S r f L V) : False := by
  obtain ⟨b, t, h, h0⟩ := h
  have e := eu_pair h (x_ne r) k.key (by have := k.dL; rw [ln_x]; omega) k.dV
  exact eu_const h k.key k.one e h0
theorem SolvP.only {S L V L' V' : Pl α} {r f : Nat} (h : SolvP S L V r f) (k : PairP S r f L' V') : L * V' = V * L' := by
  obtain ⟨b, t, h, h0, rfl, rfl⟩ := h
  have e := eu_pair h (x_ne r) k.key (by have := k.dL; rw [ln_x]; omega) k.dV
  rw [mul_assoc, mul_assoc, mul_comm t V', ← e, mul_comm b L']
theorem SolvP.eq {S L V L' V' : Pl α} {r f : Nat} (h : SolvP S L V r f) (k : PairP S r f L' V') (hc : Cop L' V') : L = L' ∧ V = V' := by
  obtain ⟨g1, g2⟩ := h.pair
  have e := cop_frac hc g2 k.one g1.one (by rw [h.only k, mul_comm])
  exact ⟨e.1.symm, e.2.symm⟩
/-- Where the sequence has a short register, the locator is its connection polynomial. -/
theorem pair_reg {S C : Pl α} {n l : Nat} {s : PS α} (hS : S.a = s) (hr : Reg C l s n) (h2 : 2 * l ≤ n) : PairP S n 0 C (cut (C.a * s) l) where
  key := by
    rw [cg_x]
    intro i hi
    rw [mul_a, hS]
    exact reg_cut hr i hi
  dL := by have := hr.len; omega
  dV := by have := cut_ln (C.a * s) l; omega
  one := hr.one
theorem SolvP.reg {S L V C : Pl α} {n l : Nat} {s : PS α} (h : SolvP S L V n 0) (hS : S.a = s) (hr : Reg C l s n) (least : ∀ c' l', Reg c' l' s n → l ≤ l') (h2 : 2 * l ≤ n) : L = C := by
  refine (h.eq (pair_reg hS hr h2) (reg_cop hr least)).1
/-- The pair of errors g behind known points. -/
theorem era_pair {h g v : Nat → α} {m n r : Nat} {S : Pl α} (hg : ∀ i, i < n → h (m + i) = g i) (hd : ∀ i j, i < m + n → j < m + n → i ≠ j → h i ≠ h j) (hv : ∀ i, i < n → v (m + i) ≠ 0) (hb : m + 2 * n ≤ r)
    (hS : ∀ i, i < r → S.a i = synd h v (m + n) i) : PairP (S * lcf h m) r m (lcf g n) (evr h v (m + n)) ∧ Cop (lcf g n) (evr h v (m + n)) := by
  refine ⟨⟨?_, ?_, ?_, lcf_at0 _ _⟩, cop_lcf n fun i hi z hz => ?_⟩
  · have e : lcf g n * (S * lcf h m) = lcf h (m + n) * S := by
      rw [lcf_split h g m n hg]
      ac_rfl
    rw [e, cg_x]
    intro i hi
    rw [mul_a, mul_low_congr hS i hi, key_synd]
  · have := lcf_ln g n
    omega
  · have := evr_ln h v (m + n)
    omega
  · have hz' : h (m + i) * z = 1 := by rw [hg i hi]; exact hz
    obtain ⟨_, e2, e3⟩ := forney (v := v) (show m + i < m + n by omega) hz' (fun j hj hne => hd j (m + i) hj (by omega) hne)
    rw [e2]
    intro e
    rcases Fd.mul_eq_zero e with h1 | h1
    · exact hv i hi h1
    · exact e3 h1
/-- The value of Forney at a point. -/
theorem forney_val {h v : Nat → α} {k j : Nat} (hj : j < k) (h0 : h j ≠ 0) (hd : ∀ i, i < k → i ≠ j → h i ≠ h j) :
    ev (der (lcf h k)) (inv (h j)) ≠ 0 ∧ -(h j * ev (evr h v k) (inv (h j))) * inv (ev (der (lcf h k)) (inv (h j))) = v j := by
  obtain ⟨e1, e2, e3⟩ := forney (v := v) hj (Fd.mul_inv (h j) h0) hd
  have hne : ev (der (lcf h k)) (inv (h j)) ≠ 0 := by
    rw [e1]
    intro e
    rcases Fd.mul_eq_zero e with g | g
    · exact h0 (by rw [← neg_neg (h j), g, neg_zero])
    · exact e3 g
  refine ⟨hne, ?_⟩
  have e4 : -(h j * ev (evr h v k) (inv (h j))) = v j * ev (der (lcf h k)) (inv (h j)) := by
    rw [e1, e2, neg_mul, mul_neg]
    congr 1
    ac_rfl
  rw [e4, mul_assoc, Fd.mul_inv _ hne, mul_one]
end Pl
end Cw
