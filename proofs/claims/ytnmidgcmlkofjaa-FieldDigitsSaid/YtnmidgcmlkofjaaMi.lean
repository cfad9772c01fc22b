/- Powers in a finite field: Fermat's law and that of Frobenius. Plain algebra, no program in sight. No conditions. -/
import Derived.Test.YtnmidgcmlkofjaaMh
namespace Cw
open Rg Fd PS

section finite
variable {α : Type} [Fd α]
theorem fermat {l : List α} (hl : All l) {b : α} (hb : b ≠ 0) : pw b (l.length - 1) = 1 := by
  obtain ⟨g, g0, g1⟩ := cyclic hl
  obtain ⟨k, k1, k2, k3⟩ := hl.nz
  have hnd : ((List.range (l.length - 1)).map (pw g)).Nodup := by
    rw [List.nodup_iff_pairwise_ne, List.pairwise_map]
    refine List.Pairwise.imp_of_mem (R := fun x y => x < y) (fun {x y} hx hy hxy e => ?_) List.pairwise_lt_range
    have := pw_inj g0 g1 (List.mem_range.1 hx) (List.mem_range.1 hy) e
    omega
  have hmem : b ∈ (List.range (l.length - 1)).map (pw g) := by
    refine Classical.byContradiction fun hn => ?_
    have := nodup_sub (List.nodup_cons.2 ⟨hn, hnd⟩) (k := k) fun x hx => by
      rcases List.mem_cons.1 hx with e | e
      · rw [e]; exact (k2 b).2 hb
      · obtain ⟨i, _, rfl⟩ := List.mem_map.1 e
        exact (k2 _).2 (pw_ne g0 i)
    simp at this
    omega
  obtain ⟨i, _, rfl⟩ := List.mem_map.1 hmem
  rw [← pw_mul, Nat.mul_comm, pw_mul, g1.2.1, one_pw]
theorem fermat' {l : List α} (hl : All l) (b : α) : pw b l.length = b := by
  have hpos : 1 ≤ l.length := List.length_pos_of_mem (hl.all 0)
  by_cases hb : b = 0
  · rw [hb, zero_pw (by omega)]
  · have := fermat hl hb
    rw [show l.length = l.length - 1 + 1 by omega, pw_succ, this, one_mul]

/-- The power of a polynomial. -/
theorem dl_pw {a : PS α} {n : Nat} (ha : dl a (n + 1)) : ∀ k, dl (pw a k) (n * k + 1)
  | 0 => dl_one
  | k + 1 => dl_mul' (dl_pw ha k) ha (by rw [Nat.mul_succ]; omega)
theorem ev_pw {a : PS α} {n : Nat} (ha : dl a (n + 1)) (x : α) : ∀ k, ev (n * k + 1) (pw a k) x = pw (ev (n + 1) a x) k
  | 0 => ev_one (by omega) x
  | k + 1 => by
    rw [pw_succ, pw_succ, ev_mul (dl_pw ha k) ha (by rw [Nat.mul_succ]; omega), ev_pw ha x k]
theorem pw_top {a : PS α} (ha : dl a 2) (h1 : a 1 = 1) : ∀ k, (pw a k) k = 1
  | 0 => by rw [pw_zero, one_at, if_pos rfl]
  | k + 1 => by
    have := mul_top (m := k) (n := 1) (a := pw a k) (b := a) (dl_mono (dl_pw (n := 1) ha k) (by omega)) ha
    rw [pw_succ, this, pw_top ha h1 k, h1, one_mul]
/-- Where p elements are their own p-th powers, p-th powers are additive. -/
theorem frob {l : List α} {p : Nat} (hp : 1 ≤ p) (hl : l.Nodup) (hlen : l.length = p) (h : ∀ x ∈ l, pw x p = x) (h1 : ∀ x ∈ l, pw (x + 1) p = x + 1) (x y : α) : pw (x + y) p = pw x p + pw y p := by
  have hX : dl (X 1 + C 1 : PS α) 2 := dl_add (dl_X 1) (dl_mono (dl_C 1) (by omega))
  have hX1 : (X 1 + C 1 : PS α) 1 = 1 := by rw [add_at, X_at, C_at, if_pos rfl, if_neg (by omega), add_zero]
  obtain ⟨f, hf⟩ : ∃ f, f = pw (X 1 + C 1 : PS α) p - X p - C 1 := ⟨_, rfl⟩
  have d1 : dl f (p + 1) := by
    rw [hf]
    exact dl_sub (dl_sub (dl_mono (dl_pw (n := 1) hX p) (by omega)) (dl_X p)) (dl_mono (dl_C 1) (by omega))
  have e1 : ∀ t, ev (p + 1) f t = pw (t + 1) p - pw t p - 1 := fun t => by
    rw [hf, ev_sub, ev_sub, ev_X (by omega), ev_C (by omega)]
    have := ev_pw (n := 1) hX t p
    rw [show 1 * p + 1 = p + 1 by omega] at this
    rw [this, ev_add, ev_X (by omega), ev_C (by omega), pw_one]
  have d2 : dl f p := dl_pred d1 (by
    rw [hf, sub_at, sub_at, pw_top hX hX1, X_at, if_pos rfl, C_at, if_neg (by omega), sub_self, sub_zero])
  have hf0 : f = 0 := by
    refine Classical.byContradiction fun hn => ?_
    have := roots_le d2 hn hl fun t ht => by
      rw [ev_eq t d2 d1, e1, h t ht, h1 t ht, sub_def, sub_def]
      have : t + 1 + -t + -1 = (t + -t) + (1 + -1) := by ac_rfl
      rw [this, add_neg, add_neg, add_zero]
    omega
  have key : ∀ t : α, pw (t + 1) p = pw t p + 1 := fun t => by
    have := e1 t
    rw [hf0, ev_zero] at this
    have h2 := sub_eq_zero this.symm
    have h3 := congrArg (· + pw t p) h2
    simp only [sub_add_cancel] at h3
    rw [h3, add_comm]
  by_cases hy : y = 0
  · rw [hy, add_zero, zero_pw (by omega), add_zero]
  · have e : x + y = (x * inv y + 1) * y := by rw [add_mul, one_mul, mul_assoc, inv_mul hy, mul_one]
    rw [e, mul_pw, key, add_mul, one_mul, ← mul_pw, mul_assoc, inv_mul hy, mul_one]
end finite
end Cw
