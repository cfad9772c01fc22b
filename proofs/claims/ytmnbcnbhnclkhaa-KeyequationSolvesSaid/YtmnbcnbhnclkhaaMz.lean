/- Euclid's algorithm with factors (Bezout), interpolation by Newton's rule. Plain algebra, no program in sight. No conditions. -/
import Derived.Test.YtmnbcnbhnclkhaaMaA
namespace Cw
open Rg Fd PS
namespace Pl
variable {α : Type} [Fd α]

/-- What holds in Euclid's algorithm for p and q, of two successive remainders a, b and their factors s, u. -/
structure Bz (p q a b s u : Pl α) : Prop where
  g : gcd a b = gcd p q
  sa : Cg q (s * p) a
  sb : Cg q (u * p) b
  ls : s.ln + b.ln ≤ q.ln + 1
  lu : u = 0 ∨ u.ln + a.ln ≤ q.ln + 1
theorem bz_start (p q : Pl α) : Bz p q p q 1 0 where
  g := rfl
  sa := by rw [one_mul]; exact cg_refl _ _
  sb := by rw [zero_mul]; exact cg_symm (cg_zero.2 (dvd_refl _))
  ls := by rw [ln_one]; omega
  lu := .inl rfl
theorem rem_eq (a b : Pl α) : rem a b = a - quo a b * b := (sub_eq (by rw [add_comm]; exact div_eq a b)).symm
theorem rem_le (a : Pl α) {b : Pl α} (hb : b ≠ 0) : (rem a b).ln ≤ a.ln := by
  by_cases h : a.ln < b.ln
  · rw [rem_self_of h]; exact Nat.le_refl _
  · have := rem_lt a hb; omega
theorem quo_len (a : Pl α) {b : Pl α} (hb : b ≠ 0) (hq : quo a b ≠ 0) : (quo a b).ln + b.ln ≤ a.ln + 1 := by
  have h1 := ln_mul hq hb
  have h2 := rem_lt a hb
  have h3 := ln_pos hq
  have h4 : (quo a b * b + rem a b).ln = (quo a b * b).ln := ln_add_eq (by omega)
  rw [← div_eq] at h4
  omega
theorem bz_step {p q a b s u : Pl α} (h : Bz p q a b s u) (hb : b ≠ 0) : Bz p q b (rem a b) u (s - quo a b * u) where
  g := by rw [gcd_rem, h.g]
  sa := h.sb
  sb := by
    rw [rem_eq a b, sub_mul, mul_assoc]
    exact cg_sub h.sa (cg_mul (cg_refl _ _) h.sb)
  ls := by
    have h1 := rem_lt a hb
    have h2 := rem_le a hb
    have h3 := h.ls
    rcases h.lu with e | e
    · rw [e, ln_zero]; omega
    · omega
  lu := .inr (by
    have h3 := h.ls
    have h4 : (quo a b * u).ln + b.ln ≤ q.ln + 1 := by
      by_cases hq : quo a b = 0
      · rw [hq, zero_mul, ln_zero]; omega
      by_cases hu : u = 0
      · rw [hu, mul_zero, ln_zero]; omega
      have h5 := quo_len a hb hq
      have h6 := ln_mul hq hu
      have h7 := ln_pos hu
      rcases h.lu with e | e
      · exact absurd e hu
      · omega
    have h8 := ln_sub_le (p := s) (q := quo a b * u) (n := q.ln + 1 - b.ln) (by omega) (by omega)
    omega)
theorem bz_end {p q a s u : Pl α} (h : Bz p q a 0 s u) (hq : q ≠ 0) : a ≠ 0 ∧ c (inv a.lc) * a = gcd p q := by
  have h1 := h.g
  rw [gcd_zero] at h1
  refine ⟨fun e => hq ?_, h1⟩
  rw [e, mon_zero] at h1
  exact (gcd_eq_zero.1 h1.symm).2
/-- The factors that are handed back. -/
theorem bz_last {p q a s u : Pl α} (h : Bz p q a 0 s u) (hq : q ≠ 0) {y : α} {d x : Pl α} (hd : d = c y * a) (hg : d = gcd p q) (hx : x = rem (c y * s) (quo q d)) :
    x * p + quo (d - x * p) q * q = d ∧ x.ln + d.ln ≤ q.ln ∧ quo q d ≠ 0 := by
  have hi := gcd_is p q
  rw [← hg] at hi
  have hd0 : d ≠ 0 := fun e => hq (by rw [hg] at e; exact (gcd_eq_zero.1 e).2)
  have e1 : q = quo q d * d := by
    have := div_eq q d
    rw [(rem_zero hd0).2 hi.r, add_zero] at this
    exact this
  have hp0 : quo q d ≠ 0 := fun e => hq (by rw [e1, e, zero_mul])
  have l1 := ln_mul hp0 hd0
  rw [← e1] at l1
  have l2 := rem_lt (c y * s) hp0
  rw [← hx] at l2
  have l3 := ln_pos hd0
  refine ⟨?_, by omega, hp0⟩
  have k1 : Cg q (x * p) d := by
    obtain ⟨m, hm⟩ := hi.l
    have e2 : x = c y * s - quo (c y * s) (quo q d) * quo q d := by rw [hx]; exact rem_eq _ _
    have k2 : Cg q (c y * s * p) d := by
      rw [hd, mul_assoc]
      exact cg_mul (cg_refl _ _) h.sa
    have k3 : Cg q (quo (c y * s) (quo q d) * quo q d * p) 0 := by
      refine cg_zero.2 ?_
      have e3 : quo (c y * s) (quo q d) * quo q d * p = quo (c y * s) (quo q d) * m * q := by
        rw [show quo (c y * s) (quo q d) * m * q = quo (c y * s) (quo q d) * m * (quo q d * d) by rw [← e1]]
        rw [show quo (c y * s) (quo q d) * quo q d * p = quo (c y * s) (quo q d) * quo q d * (m * d) by rw [← hm]]
        ac_rfl
      rw [e3]
      exact ⟨_, rfl⟩
    have k4 := cg_sub k2 k3
    rw [sub_zero, ← sub_mul, ← e2] at k4
    exact k4
  have k5 : Dvd q (d - x * p) := cg_symm k1
  have e4 := div_eq (d - x * p) q
  rw [(rem_zero hq).2 k5, add_zero] at e4
  rw [← e4, add_comm, sub_add_cancel]
theorem bz_vlen {P Q U V D : Pl α} {n : Nat} (h : U * P + V * Q = D) (hq : Q ≠ 0) (hU : U.ln + P.ln ≤ n + 1) (hD : D.ln ≤ n) : V.ln ≤ n := by
  by_cases hv : V = 0
  · rw [hv, ln_zero]; omega
  have h1 : V * Q = D - U * P := eq_sub (by rw [add_comm]; exact h)
  have h2 := ln_mul hv hq
  have h3 := ln_pos hq
  have h4 := ln_mul_le U P
  have h5 := ln_sub_le (p := D) (q := U * P) (n := n) hD (by omega)
  rw [← h1] at h5
  omega
theorem hor_ln (p q : Pl α) (n : Nat) : ∀ k, (hor p q n k).ln ≤ (k - 1) * (q.ln - 1) + 1
  | 0 => by rw [hor, ln_zero]; omega
  | 1 => by
    rw [hor, hor, zero_mul, zero_add]
    have := ln_c_le (p.a (n - 1 - 0))
    omega
  | k + 2 => by
    have h := hor_ln p q n (k + 1)
    have h1 := ln_mul_le (hor p q n (k + 1)) q
    have h2 := ln_c_le (p.a (n - 1 - (k + 1)))
    rw [Nat.add_sub_cancel] at h
    have h3 : (k + 2 - 1) * (q.ln - 1) = k * (q.ln - 1) + (q.ln - 1) := by rw [show k + 2 - 1 = k + 1 by omega, Nat.succ_mul]
    rw [hor]
    refine ln_add_le ?_ (by omega)
    by_cases hq : q = 0
    · rw [hq, mul_zero, ln_zero]; omega
    · have := ln_pos hq
      omega
/-- The polynomial of Newton's rule at the first k points. -/
noncomputable def nwt (f g : Nat → α) : Nat → Pl α
  | 0 => 0
  | k + 1 => nwt f g k + c ((g k - ev (nwt f g k) (f k)) * inv (ev (prf f k) (f k))) * prf f k
theorem nwt_ln (f g : Nat → α) : ∀ k, (nwt f g k).ln ≤ k
  | 0 => by rw [nwt, ln_zero]; omega
  | k + 1 => by
    have h := nwt_ln f g k
    have h1 := ln_cmul_le ((g k - ev (nwt f g k) (f k)) * inv (ev (prf f k) (f k))) (prf f k)
    rw [ln_prf] at h1
    exact ln_add_le (by omega) h1
theorem nwt_ev (f g : Nat → α) : ∀ k, (∀ i j, i < j → j < k → f i ≠ f j) → ∀ i, i < k → ev (nwt f g k) (f i) = g i
  | 0, _, i, hi => absurd hi (Nat.not_lt_zero _)
  | k + 1, hd, i, hi => by
    rw [nwt, ev_add, ev_mul, ev_c]
    by_cases e : i = k
    · subst e
      have h0 : ev (prf f i) (f i) ≠ 0 := fun e => by
        obtain ⟨j, hj, e⟩ := (ev_prf f (f i) i).1 e
        exact hd j i hj (by omega) e
      rw [mul_assoc, inv_mul h0, mul_one, add_comm, sub_add_cancel]
    · rw [(ev_prf f (f i) k).2 ⟨i, by omega, rfl⟩, mul_zero, add_zero]
      exact nwt_ev f g k (fun a b h1 h2 => hd a b h1 (by omega)) i (by omega)
end Pl
end Cw
