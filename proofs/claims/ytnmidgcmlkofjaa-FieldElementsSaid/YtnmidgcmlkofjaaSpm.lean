/- The reference's sums and products of two elements, in plain terms: coefficient by coefficient; the product of the polynomials, reduced from the highest power on. No program in sight. -/
import Derived.Test.YtnmidgcmlkofjaaSpd
namespace Cw

/-- One term of the product is added. -/
def cvStep (p : Int) (a b : List Int) (i j : Nat) (c : List Int) : List Int := c.set (i + j) ((c.getD (i + j) 0 + a.getD i 0 * b.getD j 0) % p)
def cvRow (p : Int) (a b : List Int) (i : Nat) (c : List Int) : Nat → List Int
  | 0 => c
  | j + 1 => cvStep p a b i j (cvRow p a b i c j)
def cvAll (p : Int) (m : Nat) (a b c : List Int) : Nat → List Int
  | 0 => c
  | i + 1 => cvRow p a b i (cvAll p m a b c i) m
/-- One term of the reduction: coefficient number i. -/
def rdStep (p : Int) (m : Nat) (mod : List Int) (i j : Nat) (c : List Int) : List Int := c.set (i - m + j) ((c.getD (i - m + j) 0 + (p - c.getD i 0) * mod.getD j 0) % p)
def rdRow (p : Int) (m : Nat) (mod : List Int) (i : Nat) (c : List Int) : Nat → List Int
  | 0 => c
  | j + 1 => rdStep p m mod i j (rdRow p m mod i c j)
def rdAll (p : Int) (m : Nat) (mod c : List Int) : Nat → List Int
  | 0 => c
  | n + 1 => rdRow p m mod (2 * m - 2 - n) (rdAll p m mod c n) m
/-- The product's coefficients. -/
def rMulL (p : Int) (m : Nat) (mod a b : List Int) : List Int := (rdAll p m mod (cvAll p m a b (List.replicate (2 * m - 1) 0) m) (m - 1)).take m

theorem length_cvStep (p : Int) (a b : List Int) (i j : Nat) (c : List Int) : (cvStep p a b i j c).length = c.length := by simp [cvStep]
theorem length_cvRow (p : Int) (a b : List Int) (i : Nat) (c : List Int) (n : Nat) : (cvRow p a b i c n).length = c.length := by
  induction n with
  | zero => rfl
  | succ n ih => rw [cvRow, length_cvStep, ih]
theorem length_cvAll (p : Int) (m : Nat) (a b c : List Int) (n : Nat) : (cvAll p m a b c n).length = c.length := by
  induction n with
  | zero => rfl
  | succ n ih => rw [cvAll, length_cvRow, ih]
theorem length_rdStep (p : Int) (m : Nat) (mod : List Int) (i j : Nat) (c : List Int) : (rdStep p m mod i j c).length = c.length := by simp [rdStep]
theorem length_rdRow (p : Int) (m : Nat) (mod : List Int) (i : Nat) (c : List Int) (n : Nat) : (rdRow p m mod i c n).length = c.length := by
  induction n with
  | zero => rfl
  | succ n ih => rw [rdRow, length_rdStep, ih]
theorem length_rdAll (p : Int) (m : Nat) (mod c : List Int) (n : Nat) : (rdAll p m mod c n).length = c.length := by
  induction n with
  | zero => rfl
  | succ n ih => rw [rdAll, length_rdRow, ih]
theorem digs_set {p : Int} (hp : 0 < p) {c : List Int} (h : Digs p c) (i : Nat) (x : Int) : Digs p (c.set i (x % p)) := fun y hy => by
  rcases List.mem_or_eq_of_mem_set hy with e | e
  · exact h y e
  · rw [e]; exact ⟨Int.emod_nonneg _ (by omega), Int.emod_lt_of_pos _ hp⟩
theorem digs_cvRow {p : Int} (hp : 0 < p) (a b : List Int) (i : Nat) {c : List Int} (h : Digs p c) (n : Nat) : Digs p (cvRow p a b i c n) := by
  induction n with
  | zero => exact h
  | succ n ih => exact digs_set hp ih _ _
theorem digs_cvAll {p : Int} (hp : 0 < p) (m : Nat) (a b : List Int) {c : List Int} (h : Digs p c) (n : Nat) : Digs p (cvAll p m a b c n) := by
  induction n with
  | zero => exact h
  | succ n ih => exact digs_cvRow hp _ _ _ ih _
theorem digs_rdRow {p : Int} (hp : 0 < p) (m : Nat) (mod : List Int) (i : Nat) {c : List Int} (h : Digs p c) (n : Nat) : Digs p (rdRow p m mod i c n) := by
  induction n with
  | zero => exact h
  | succ n ih => exact digs_set hp ih _ _
theorem digs_rdAll {p : Int} (hp : 0 < p) (m : Nat) (mod : List Int) {c : List Int} (h : Digs p c) (n : Nat) : Digs p (rdAll p m mod c n) := by
  induction n with
  | zero => exact h
  | succ n ih => exact digs_rdRow hp _ _ _ ih _
theorem digs_zeros {p : Int} (hp : 0 < p) (n : Nat) : Digs p (List.replicate n 0) := fun x hx => by rw [(List.mem_replicate.1 hx).2]; omega
theorem digs_take {p : Int} {l : List Int} (h : Digs p l) (k : Nat) : Digs p (l.take k) := fun x hx => h x (List.mem_of_mem_take hx)
theorem cv_bd {p x y z : Int} (hp2 : p ≤ 256) (hx : 0 ≤ x ∧ x < p) (hy : 0 ≤ y ∧ y < p) (hz : 0 ≤ z ∧ z < p) : 0 ≤ x * y ∧ x * y ≤ 65536 ∧ 0 ≤ z + x * y := by
  have h1 : 0 ≤ x * y := Int.mul_nonneg hx.1 hy.1
  have h2 : x * y ≤ 256 * y := Int.mul_le_mul_of_nonneg_right (by omega) hy.1
  omega
theorem rMulL_len (p : Int) (m : Nat) (mod a b : List Int) (hm : 1 ≤ m) : (rMulL p m mod a b).length = m := by
  unfold rMulL
  rw [List.length_take, length_rdAll, length_cvAll, List.length_replicate]
  omega
theorem rMulL_digs {p : Int} (hp : 0 < p) (m : Nat) (mod a b : List Int) : Digs p (rMulL p m mod a b) := digs_take (digs_rdAll hp _ _ (digs_cvAll hp _ _ _ (digs_zeros hp _) _) _) _

/-! ### Sums and negatives, coefficient by coefficient. -/
def adL (p : Int) (a b : List Int) : Nat → List Int
  | 0 => a
  | i + 1 => (adL p a b i).set i (((adL p a b i).getD i 0 + b.getD i 0) % p)
def ngL (p : Int) (a : List Int) : Nat → List Int
  | 0 => a
  | i + 1 => (ngL p a i).set i ((p - (ngL p a i).getD i 0) % p)
theorem length_adL (p : Int) (a b : List Int) (n : Nat) : (adL p a b n).length = a.length := by
  induction n with
  | zero => rfl
  | succ n ih => rw [adL, List.length_set, ih]
theorem length_ngL (p : Int) (a : List Int) (n : Nat) : (ngL p a n).length = a.length := by
  induction n with
  | zero => rfl
  | succ n ih => rw [ngL, List.length_set, ih]
theorem digs_adL {p : Int} (hp : 0 < p) {a : List Int} (b : List Int) (h : Digs p a) (n : Nat) : Digs p (adL p a b n) := by
  induction n with
  | zero => exact h
  | succ n ih => exact digs_set hp ih _ _
theorem digs_ngL {p : Int} (hp : 0 < p) {a : List Int} (h : Digs p a) (n : Nat) : Digs p (ngL p a n) := by
  induction n with
  | zero => exact h
  | succ n ih => exact digs_set hp ih _ _
theorem adL_at (p : Int) (a b : List Int) (n k : Nat) (hk : k < a.length) : (adL p a b n).getD k 0 = if k < n then (a.getD k 0 + b.getD k 0) % p else a.getD k 0 := by
  induction n with
  | zero => rw [if_neg (by omega)]; rfl
  | succ n ih =>
    rw [adL]
    by_cases e : n = k
    · subst e
      rw [if_neg (by omega)] at ih
      rw [List.getD, List.getElem?_set_self (by rw [length_adL]; exact hk), Option.getD_some, ih, if_pos (by omega)]
    · rw [List.getD, List.getElem?_set_ne e]
      by_cases h : k < n
      · rw [if_pos h] at ih; rw [if_pos (by omega)]; exact ih
      · rw [if_neg h] at ih; rw [if_neg (by omega)]; exact ih
theorem ngL_at (p : Int) (a : List Int) (n k : Nat) (hk : k < a.length) : (ngL p a n).getD k 0 = if k < n then (p - a.getD k 0) % p else a.getD k 0 := by
  induction n with
  | zero => rw [if_neg (by omega)]; rfl
  | succ n ih =>
    rw [ngL]
    by_cases e : n = k
    · subst e
      rw [if_neg (by omega)] at ih
      rw [List.getD, List.getElem?_set_self (by rw [length_ngL]; exact hk), Option.getD_some, ih, if_pos (by omega)]
    · rw [List.getD, List.getElem?_set_ne e]
      by_cases h : k < n
      · rw [if_pos h] at ih; rw [if_pos (by omega)]; exact ih
      · rw [if_neg h] at ih; rw [if_neg (by omega)]; exact ih
end Cw
