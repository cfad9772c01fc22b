/- Commutative rings, fields, finite sums and power series: plain algebra, no program in sight. No conditions. -/
namespace Cw

class Rg (α : Type) extends Zero α, One α, Add α, Mul α, Neg α, Sub α where
  add_assoc : ∀ a b c : α, a + b + c = a + (b + c)
  add_comm : ∀ a b : α, a + b = b + a
  add_zero : ∀ a : α, a + 0 = a
  add_neg : ∀ a : α, a + -a = 0
  sub_def : ∀ a b : α, a - b = a + -b
  mul_assoc : ∀ a b c : α, a * b * c = a * (b * c)
  mul_comm : ∀ a b : α, a * b = b * a
  mul_one : ∀ a : α, a * 1 = a
  mul_add : ∀ a b c : α, a * (b + c) = a * b + a * c

namespace Rg
variable {α : Type} [Rg α]

instance : Std.Associative (α := α) (· + ·) := ⟨add_assoc⟩
instance : Std.Commutative (α := α) (· + ·) := ⟨add_comm⟩
instance : Std.Associative (α := α) (· * ·) := ⟨mul_assoc⟩
instance : Std.Commutative (α := α) (· * ·) := ⟨mul_comm⟩

theorem zero_add (a : α) : 0 + a = a := by rw [add_comm, add_zero]
theorem neg_add (a : α) : -a + a = 0 := by rw [add_comm, add_neg]
theorem one_mul (a : α) : 1 * a = a := by rw [mul_comm, mul_one]
theorem add_mul (a b c : α) : (a + b) * c = a * c + b * c := by rw [mul_comm, mul_add, mul_comm c a, mul_comm c b]
theorem add_left_cancel {a b c : α} (h : a + b = a + c) : b = c := by
  have := congrArg (fun x => -a + x) h
  simpa [← add_assoc, neg_add, zero_add] using this
theorem add_right_cancel {a b c : α} (h : b + a = c + a) : b = c := by
  rw [add_comm b, add_comm c] at h; exact add_left_cancel h
theorem neg_unique {a b : α} (h : a + b = 0) : b = -a := add_left_cancel (a := a) (by rw [h, add_neg])
theorem neg_neg (a : α) : - -a = a := (neg_unique (neg_add a)).symm
theorem neg_zero : -(0 : α) = 0 := (neg_unique (add_zero 0)).symm
theorem mul_zero (a : α) : a * 0 = 0 := add_left_cancel (a := a * 0) (by rw [← mul_add, add_zero, add_zero])
theorem zero_mul (a : α) : 0 * a = 0 := by rw [mul_comm, mul_zero]
theorem mul_neg (a b : α) : a * -b = -(a * b) := neg_unique (by rw [← mul_add, add_neg, mul_zero])
theorem neg_mul (a b : α) : -a * b = -(a * b) := by rw [mul_comm, mul_neg, mul_comm]
theorem neg_add_rev (a b : α) : -(a + b) = -a + -b := (neg_unique (by
  have : a + b + (-a + -b) = (a + -a) + (b + -b) := by ac_rfl
  rw [this, add_neg, add_neg, add_zero])).symm
theorem sub_self (a : α) : a - a = 0 := by rw [sub_def, add_neg]
theorem sub_zero (a : α) : a - 0 = a := by rw [sub_def, neg_zero, add_zero]
theorem zero_sub (a : α) : 0 - a = -a := by rw [sub_def, zero_add]
theorem sub_add_cancel (a b : α) : a - b + b = a := by rw [sub_def, add_assoc, neg_add, add_zero]
theorem add_sub_cancel (a b : α) : a + b - b = a := by rw [sub_def, add_assoc, add_neg, add_zero]
theorem sub_eq_zero {a b : α} (h : a - b = 0) : a = b := by
  have := congrArg (· + b) h
  simpa [sub_add_cancel, zero_add] using this
theorem eq_sub {a b c : α} (h : a + b = c) : a = c - b := by rw [← h, add_sub_cancel]
theorem sub_eq {a b c : α} (h : a = c + b) : a - b = c := by rw [h, add_sub_cancel]
theorem mul_sub (a b c : α) : a * (b - c) = a * b - a * c := by rw [sub_def, mul_add, mul_neg, ← sub_def]
theorem sub_mul (a b c : α) : (a - b) * c = a * c - b * c := by rw [sub_def, add_mul, neg_mul, ← sub_def]
theorem neg_eq_zero {a : α} (h : -a = 0) : a = 0 := by rw [← neg_neg a, h, neg_zero]
theorem neg_inj {a b : α} (h : -a = -b) : a = b := by rw [← neg_neg a, h, neg_neg]
theorem neg_sub (a b : α) : -(a - b) = b - a := by rw [sub_def, neg_add_rev, neg_neg, add_comm, ← sub_def]
theorem neg_one_mul (a : α) : -1 * a = -a := by rw [neg_mul, one_mul]

/-- The n-th power. -/
def pw (a : α) : Nat → α
  | 0 => 1
  | n + 1 => pw a n * a
theorem pw_zero (a : α) : pw a 0 = 1 := rfl
theorem pw_succ (a : α) (n : Nat) : pw a (n + 1) = pw a n * a := rfl
theorem pw_one (a : α) : pw a 1 = a := by rw [pw_succ, pw_zero, one_mul]
theorem pw_add (a : α) (m n : Nat) : pw a (m + n) = pw a m * pw a n := by
  induction n with
  | zero => simp [pw_zero, mul_one]
  | succ n ih => rw [← Nat.add_assoc, pw_succ, ih, pw_succ, mul_assoc]
theorem pw_mul (a : α) (m n : Nat) : pw a (m * n) = pw (pw a m) n := by
  induction n with
  | zero => simp [pw_zero]
  | succ n ih => rw [Nat.mul_succ, pw_add, ih, pw_succ]
theorem one_pw (n : Nat) : pw (1 : α) n = 1 := by
  induction n with
  | zero => rfl
  | succ n ih => rw [pw_succ, ih, mul_one]
theorem mul_pw (a b : α) (n : Nat) : pw (a * b) n = pw a n * pw b n := by
  induction n with
  | zero => simp [pw_zero, mul_one]
  | succ n ih => rw [pw_succ, ih, pw_succ, pw_succ]; ac_rfl
theorem zero_pw {n : Nat} (h : n ≠ 0) : pw (0 : α) n = 0 := by
  cases n with
  | zero => exact absurd rfl h
  | succ n => rw [pw_succ, mul_zero]

/-- The sum of f 0 to f (n - 1). -/
def sm : Nat → (Nat → α) → α
  | 0, _ => 0
  | n + 1, f => sm n f + f n
theorem sm_zero (f : Nat → α) : sm 0 f = 0 := rfl
theorem sm_succ (n : Nat) (f : Nat → α) : sm (n + 1) f = sm n f + f n := rfl
theorem sm_congr {n : Nat} {f g : Nat → α} (h : ∀ i, i < n → f i = g i) : sm n f = sm n g := by
  induction n with
  | zero => rfl
  | succ n ih => rw [sm_succ, sm_succ, ih (fun i hi => h i (by omega)), h n (by omega)]
theorem sm_eq_zero {n : Nat} {f : Nat → α} (h : ∀ i, i < n → f i = 0) : sm n f = 0 := by
  induction n with
  | zero => rfl
  | succ n ih => rw [sm_succ, ih (fun i hi => h i (by omega)), h n (by omega), add_zero]
theorem sm_add (n : Nat) (f g : Nat → α) : sm n (fun i => f i + g i) = sm n f + sm n g := by
  induction n with
  | zero => simp [sm_zero, add_zero]
  | succ n ih => rw [sm_succ, sm_succ, sm_succ, ih]; ac_rfl
theorem sm_neg (n : Nat) (f : Nat → α) : sm n (fun i => -f i) = -sm n f := by
  induction n with
  | zero => simp [sm_zero, neg_zero]
  | succ n ih => rw [sm_succ, sm_succ, ih, neg_add_rev]
theorem sm_sub (n : Nat) (f g : Nat → α) : sm n (fun i => f i - g i) = sm n f - sm n g := by
  rw [sub_def, ← sm_neg, ← sm_add]; exact sm_congr fun i _ => sub_def _ _
theorem mul_sm (a : α) (n : Nat) (f : Nat → α) : a * sm n f = sm n (fun i => a * f i) := by
  induction n with
  | zero => simp [sm_zero, mul_zero]
  | succ n ih => rw [sm_succ, mul_add, ih, sm_succ]
theorem sm_mul (a : α) (n : Nat) (f : Nat → α) : sm n f * a = sm n (fun i => f i * a) := by
  rw [mul_comm, mul_sm]; exact sm_congr fun i _ => mul_comm _ _
theorem sm_first (n : Nat) (f : Nat → α) : sm (n + 1) f = f 0 + sm n (fun i => f (i + 1)) := by
  induction n with
  | zero => simp [sm_succ, sm_zero, add_zero, zero_add]
  | succ n ih => rw [sm_succ, ih, sm_succ, add_assoc]
theorem sm_split (m n : Nat) (f : Nat → α) : sm (m + n) f = sm m f + sm n (fun i => f (m + i)) := by
  induction n with
  | zero => simp [sm_zero, add_zero]
  | succ n ih => rw [← Nat.add_assoc, sm_succ, ih, sm_succ, add_assoc]
theorem sm_rev (n : Nat) (f : Nat → α) : sm n f = sm n (fun i => f (n - 1 - i)) := by
  induction n with
  | zero => rfl
  | succ n ih =>
    rw [sm_succ, sm_first, ih, add_comm]
    congr 1
    exact sm_congr fun i _ => by congr 1; omega
theorem sm_comm (m n : Nat) (f : Nat → Nat → α) : sm m (fun i => sm n (f i)) = sm n (fun j => sm m (fun i => f i j)) := by
  induction m with
  | zero => simp only [sm_zero]; exact (sm_eq_zero fun _ _ => rfl).symm
  | succ m ih => simp only [sm_succ, sm_add, ih]
/-- Only one term is not 0. -/
theorem sm_one {n k : Nat} (hk : k < n) {f : Nat → α} (h : ∀ i, i < n → i ≠ k → f i = 0) : sm n f = f k := by
  induction n with
  | zero => omega
  | succ n ih =>
    rw [sm_succ]
    by_cases e : k = n
    · subst e; rw [sm_eq_zero (fun i hi => h i (by omega) (by omega)), zero_add]
    · rw [ih (by omega) (fun i hi hk => h i (by omega) hk), h n (by omega) (by omega), add_zero]
/-- Terms beyond m are 0. -/
theorem sm_short {m n : Nat} (hm : m ≤ n) {f : Nat → α} (h : ∀ i, m ≤ i → i < n → f i = 0) : sm n f = sm m f := by
  obtain ⟨k, rfl⟩ := Nat.exists_eq_add_of_le hm
  rw [sm_split, sm_eq_zero (n := k) (fun i hi => h _ (by omega) (by omega)), add_zero]
/-- The triangle, by diagonals and by rows. -/
theorem sm_tri (n : Nat) (f : Nat → Nat → α) : sm (n + 1) (fun k => sm (k + 1) (fun i => f i (k - i))) = sm (n + 1) (fun i => sm (n - i + 1) (f i)) := by
  induction n with
  | zero => simp [sm_succ, sm_zero]
  | succ n ih =>
    rw [sm_succ, ih]
    have e1 : sm (n + 1 + 1) (fun i => sm (n + 1 - i + 1) (f i)) = sm (n + 1) (fun i => sm (n - i + 1) (f i) + f i (n + 1 - i)) + sm (0 + 1) (f (n + 1)) := by
      rw [sm_succ]
      congr 1
      · exact sm_congr fun i hi => by rw [show n + 1 - i + 1 = (n - i + 1) + 1 by omega, sm_succ, show n - i + 1 = n + 1 - i by omega]
      · rw [show n + 1 - (n + 1) + 1 = 0 + 1 by omega]
    rw [e1, sm_add, sm_succ (n + 1)]
    simp only [sm_succ, sm_zero, Nat.sub_self, zero_add]
    ac_rfl
end Rg

class Fd (α : Type) extends Rg α where
  inv : α → α
  mul_inv : ∀ a : α, a ≠ 0 → a * inv a = 1
  one_ne : (1 : α) ≠ 0

namespace Fd
open Rg
variable {α : Type} [Fd α]
theorem inv_mul {a : α} (h : a ≠ 0) : inv a * a = 1 := by rw [mul_comm, mul_inv a h]
theorem mul_left_cancel {a b c : α} (h : a ≠ 0) (e : a * b = a * c) : b = c := by
  have := congrArg (fun x => inv a * x) e
  simpa [← mul_assoc, inv_mul h, one_mul] using this
theorem mul_right_cancel {a b c : α} (h : a ≠ 0) (e : b * a = c * a) : b = c := by
  rw [mul_comm b, mul_comm c] at e; exact mul_left_cancel h e
theorem mul_ne {a b : α} (ha : a ≠ 0) (hb : b ≠ 0) : a * b ≠ 0 := fun h => hb (mul_left_cancel ha (by rw [h, mul_zero]))
theorem mul_eq_zero {a b : α} (h : a * b = 0) : a = 0 ∨ b = 0 := by
  by_cases ha : a = 0
  · exact .inl ha
  · by_cases hb : b = 0
    · exact .inr hb
    · exact absurd h (mul_ne ha hb)
theorem inv_ne {a : α} (h : a ≠ 0) : inv a ≠ 0 := fun e => one_ne (by rw [← mul_inv a h, e, mul_zero])
theorem pw_ne {a : α} (h : a ≠ 0) (n : Nat) : pw a n ≠ 0 := by
  induction n with
  | zero => exact one_ne
  | succ n ih => rw [pw_succ]; exact mul_ne ih h
theorem inv_unique {a b : α} (h : a * b = 1) : b = inv a := by
  have ha : a ≠ 0 := fun e => one_ne (by rw [← h, e, zero_mul])
  exact mul_left_cancel ha (by rw [h, mul_inv a ha])
theorem neg_ne {a : α} (h : a ≠ 0) : -a ≠ 0 := fun e => h (neg_eq_zero e)
end Fd
end Cw
