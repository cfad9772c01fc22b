/- Commutative rings, fields, finite sums and power series: plain algebra, no program in sight. No conditions. Power series and polynomials over a commutative ring or a field: plain algebra, no program in sight. No conditions. Polynomials over a field as a ring: lengths, division with remainder, leading coefficients, divisibility, greatest common divisors. Plain algebra, no program in sight. No conditions. Derivatives, compositions, reversals, products of linear factors, powers modulo a polynomial, interpolation. Plain algebra, no program in sight. No conditions. -/

namespace Cw

class Rg (α : Type) extends Zero α, One α, Add α, Mul α, Neg α, Sub α where
  add_assoc : ∀ a b c : α, a + b + c = a + (b + c)
  add_comm : ∀ a b : α, a + b = b + a
  add_zero : ∀ a : α, a + 0 = a
  add_neg : ∀ a : α, a + -a = 0
  sub_def : ∀ a b : α, a - b = a + -b
  mul_assoc : ∀ a b c : α, a * b * c = a * (b * c)
  mul_comm : ∀ a b : α, a * b = b * a
  mul_one : ∀ a : α, a * 1 = a
  mul_add : ∀ a b c : α, a * (b + c) = a * b + a * c

namespace Rg
variable {α : Type} [Rg α]

instance : Std.Associative (α := α) (· + ·) := ⟨add_assoc⟩
instance : Std.Commutative (α := α) (· + ·) := ⟨add_comm⟩
instance : Std.Associative (α := α) (· * ·) := ⟨mul_assoc⟩
instance : Std.Commutative (α := α) (· * ·) := ⟨mul_comm⟩

theorem zero_add (a : α) : 0 + a = a := by rw [add_comm, add_zero]
theorem neg_add (a : α) : -a + a = 0 := by rw [add_comm, add_neg]
theorem one_mul (a : α) : 1 * a = a := by rw [mul_comm, mul_one]
theorem add_mul (a b c : α) : (a + b) * c = a * c + b * c := by rw [mul_comm, mul_add, mul_comm c a, mul_comm c b]
theorem add_left_cancel {a b c : α} (h : a + b = a + c) : b = c := by
  have := congrArg (fun x => -a + x) h
  simpa [← add_assoc, neg_add, zero_add] using this
theorem add_right_cancel {a b c : α} (h : b + a = c + a) : b = c := by
  rw [add_comm b, add_comm c] at h; exact add_left_cancel h
theorem neg_unique {a b : α} (h : a + b = 0) : b = -a := add_left_cancel (a := a) (by rw [h, add_neg])
theorem neg_neg (a : α) : - -a = a := (neg_unique (neg_add a)).symm
theorem neg_zero : -(0 : α) = 0 := (neg_unique (add_zero 0)).symm
theorem mul_zero (a : α) : a * 0 = 0 := add_left_cancel (a := a * 0) (by rw [← mul_add, add_zero, add_zero])
theorem zero_mul (a : α) : 0 * a = 0 := by rw [mul_comm, mul_zero]
theorem mul_neg (a b : α) : a * -b = -(a * b) := neg_unique (by rw [← mul_add, add_neg, mul_zero])
theorem neg_mul (a b : α) : -a * b = -(a * b) := by rw [mul_comm, mul_neg, mul_comm]
theorem neg_add_rev (a b : α) : -(a + b) = -a + -b := (neg_unique (by
  have : a + b + (-a + -b) = (a + -a) + (b + -b) := by ac_rfl
  rw [this, add_neg, add_neg, add_zero])).symm
theorem sub_self (a : α) : a - a = 0 := by rw [sub_def, add_neg]
theorem sub_zero (a : α) : a - 0 = a := by rw [sub_def, neg_zero, add_zero]
theorem zero_sub (a : α) : 0 - a = -a := by rw [sub_def, zero_add]
theorem sub_add_cancel (a b : α) : a - b + b = a := by rw [sub_def, add_assoc, neg_add, add_zero]
theorem add_sub_cancel (a b : α) : a + b - b = a := by rw [sub_def, add_assoc, add_neg, add_zero]
theorem sub_eq_zero {a b : α} (h : a - b = 0) : a = b := by
  have := congrArg (· + b) h
  simpa [sub_add_cancel, zero_add] using this
theorem eq_sub {a b c : α} (h : a + b = c) : a = c - b := by rw [← h, add_sub_cancel]
theorem sub_eq {a b c : α} (h : a = c + b) : a - b = c := by rw [h, add_sub_cancel]
theorem mul_sub (a b c : α) : a * (b - c) = a * b - a * c := by rw [sub_def, mul_add, mul_neg, ← sub_def]
theorem sub_mul (a b c : α) : (a - b) * c = a * c - b * c := by rw [sub_def, add_mul, neg_mul, ← sub_def]
theorem neg_eq_zero {a : α} (h : -a = 0) : a = 0 := by rw [← neg_neg a, h, neg_zero]
theorem neg_inj {a b : α} (h : -a = -b) : a = b := by rw [← neg_neg a, h, neg_neg]
theorem neg_sub (a b : α) : -(a - b) = b - a := by rw [sub_def, neg_add_rev, neg_neg, add_comm, ← sub_def]
theorem neg_one_mul (a : α) : -1 * a = -a := by rw [neg_mul, one_mul]

/-- The n-th power. -/
def pw (a : α) : Nat → α
  | 0 => 1
  | n + 1 => pw a n * a
theorem pw_zero (a : α) : pw a 0 = 1 := rfl
theorem pw_succ (a : α) (n : Nat) : pw a (n + 1) = pw a n * a := rfl
theorem pw_one (a : α) : pw a 1 = a := by rw [pw_succ, pw_zero, one_mul]
theorem pw_add (a : α) (m n : Nat) : pw a (m + n) = pw a m * pw a n := by
  induction n with
  | zero => simp [pw_zero, mul_one]
  | succ n ih => rw [← Nat.add_assoc, pw_succ, ih, pw_succ, mul_assoc]
theorem pw_mul (a : α) (m n : Nat) : pw a (m * n) = pw (pw a m) n := by
  induction n with
  | zero => simp [pw_zero]
  | succ n ih => rw [Nat.mul_succ, pw_add, ih, pw_succ]
theorem one_pw (n : Nat) : pw (1 : α) n = 1 := by
  induction n with
  | zero => rfl
  | succ n ih => rw [pw_succ, ih, mul_one]
theorem mul_pw (a b : α) (n : Nat) : pw (a * b) n = pw a n * pw b n := by
  induction n with
  | zero => simp [pw_zero, mul_one]
  | succ n ih => rw [pw_succ, ih, pw_succ, pw_succ]; ac_rfl
theorem zero_pw {n : Nat} (h : n ≠ 0) : pw (0 : α) n = 0 := by
  cases n with
  | zero => exact absurd rfl h
  | succ n => rw [pw_succ, mul_zero]

/-- The sum of f 0 to f (n - 1). -/
def sm : Nat → (Nat → α) → α
  | 0, _ => 0
  | n + 1, f => sm n f + f n
theorem sm_zero (f : Nat → α) : sm 0 f = 0 := rfl
theorem sm_succ (n : Nat) (f : Nat → α) : sm (n + 1) f = sm n f + f n := rfl
theorem sm_congr {n : Nat} {f g : Nat → α} (h : ∀ i, i < n → f i = g i) : sm n f = sm n g := by
  induction n with
  | zero => rfl
  | succ n ih => rw [sm_succ, sm_succ, ih (fun i hi => h i (by omega)), h n (by omega)]
theorem sm_eq_zero {n : Nat} {f : Nat → α} (h : ∀ i, i < n → f i = 0) : sm n f = 0 := by
  induction n with
  | zero => rfl
  | succ n ih => rw [sm_succ, ih (fun i hi => h i (by omega)), h n (by omega), add_zero]
theorem sm_add (n : Nat) (f g : Nat → α) : sm n (fun i => f i + g i) = sm n f + sm n g := by
  induction n with
  | zero => simp [sm_zero, add_zero]
  | succ n ih => rw [sm_succ, sm_succ, sm_succ, ih]; ac_rfl
theorem sm_neg (n : Nat) (f : Nat → α) : sm n (fun i => -f i) = -sm n f := by
  induction n with
  | zero => simp [sm_zero, neg_zero]
  | succ n ih => rw [sm_succ, sm_succ, ih, neg_add_rev]
theorem sm_sub (n : Nat) (f g : Nat → α) : sm n (fun i => f i - g i) = sm n f - sm n g := by
  rw [sub_def, ← sm_neg, ← sm_add]; exact sm_congr fun i _ => sub_def _ _
theorem mul_sm (a : α) (n : Nat) (f : Nat → α) : a * sm n f = sm n (fun i => a * f i) := by
  induction n with
  | zero => simp [sm_zero, mul_zero]
  | succ n ih => rw [sm_succ, mul_add, ih, sm_succ]
theorem sm_mul (a : α) (n : Nat) (f : Nat → α) : sm n f * a = sm n (fun i => f i * a) := by
  rw [mul_comm, mul_sm]; exact sm_congr fun i _ => mul_comm _ _
theorem sm_first (n : Nat) (f : Nat → α) : sm (n + 1) f = f 0 + sm n (fun i => f (i + 1)) := by
  induction n with
  | zero => simp [sm_succ, sm_zero, add_zero, zero_add]
  | succ n ih => rw [sm_succ, ih, sm_succ, add_assoc]
theorem sm_split (m n : Nat) (f : Nat → α) : sm (m + n) f = sm m f + sm n (fun i => f (m + i)) := by
  induction n with
  | zero => simp [sm_zero, add_zero]
  | succ n ih => rw [← Nat.add_assoc, sm_succ, ih, sm_succ, add_assoc]
theorem sm_rev (n : Nat) (f : Nat → α) : sm n f = sm n (fun i => f (n - 1 - i)) := by
  induction n with
  | zero => rfl
  | succ n ih =>
    rw [sm_succ, sm_first, ih, add_comm]
    congr 1
    exact sm_congr fun i _ => by congr 1; omega
theorem sm_comm (m n : Nat) (f : Nat → Nat → α) : sm m (fun i => sm n (f i)) = sm n (fun j => sm m (fun i => f i j)) := by
  induction m with
  | zero => simp only [sm_zero]; exact (sm_eq_zero fun _ _ => rfl).symm
  | succ m ih => simp only [sm_succ, sm_add, ih]
/-- Only one term is not 0. -/
theorem sm_one {n k : Nat} (hk : k < n) {f : Nat → α} (h : ∀ i, i < n → i ≠ k → f i = 0) : sm n f = f k := by
  induction n with
  | zero => omega
  | succ n ih =>
    rw [sm_succ]
    by_cases e : k = n
    · subst e; rw [sm_eq_zero (fun i hi => h i (by omega) (by omega)), zero_add]
    · rw [ih (by omega) (fun i hi hk => h i (by omega) hk), h n (by omega) (by omega), add_zero]
/-- Terms beyond m are 0. -/
theorem sm_short {m n : Nat} (hm : m ≤ n) {f : Nat → α} (h : ∀ i, m ≤ i → i < n → f i = 0) : sm n f = sm m f := by
  obtain ⟨k, rfl⟩ := Nat.exists_eq_add_of_le hm
  rw [sm_split, sm_eq_zero (n := k) (fun i hi => h _ (by omega) (by omega)), add_zero]
/-- The triangle, by diagonals and by rows. -/
theorem sm_tri (n : Nat) (f : Nat → Nat → α) : sm (n + 1) (fun k => sm (k + 1) (fun i => f i (k - i))) = sm (n + 1) (fun i => sm (n - i + 1) (f i)) := by
  induction n with
  | zero => simp [sm_succ, sm_zero]
  | succ n ih =>
    rw [sm_succ, ih]
    have e1 : sm (n + 1 + 1) (fun i => sm (n + 1 - i + 1) (f i)) = sm (n + 1) (fun i => sm (n - i + 1) (f i) + f i (n + 1 - i)) + sm (0 + 1) (f (n + 1)) := by
      rw [sm_succ]
      congr 1
      · exact sm_congr fun i hi => by rw [show n + 1 - i + 1 = (n - i + 1) + 1 by omega, sm_succ, show n - i + 1 = n + 1 - i by omega]
      · rw [show n + 1 - (n + 1) + 1 = 0 + 1 by omega]
    rw [e1, sm_add, sm_succ (n + 1)]
    simp only [sm_succ, sm_zero, Nat.sub_self, zero_add]
    ac_rfl
end Rg

class Fd (α : Type) extends Rg α where
  inv : α → α
  mul_inv : ∀ a : α, a ≠ 0 → a * inv a = 1
  one_ne : (1 : α) ≠ 0

namespace Fd
open Rg
variable {α : Type} [Fd α]
theorem inv_mul {a : α} (h : a ≠ 0) : inv a * a = 1 := by rw [mul_comm, mul_inv a h]
theorem mul_left_cancel {a b c : α} (h : a ≠ 0) (e : a * b = a * c) : b = c := by
  have := congrArg (fun x => inv a * x) e
  simpa [← mul_assoc, inv_mul h, one_mul] using this
theorem mul_right_cancel {a b c : α} (h : a ≠ 0) (e : b * a = c * a) : b = c := by
  rw [mul_comm b, mul_comm c] at e; exact mul_left_cancel h e
theorem mul_ne {a b : α} (ha : a ≠ 0) (hb : b ≠ 0) : a * b ≠ 0 := fun h => hb (mul_left_cancel ha (by rw [h, mul_zero]))
theorem mul_eq_zero {a b : α} (h : a * b = 0) : a = 0 ∨ b = 0 := by
  by_cases ha : a = 0
  · exact .inl ha
  · by_cases hb : b = 0
    · exact .inr hb
    · exact absurd h (mul_ne ha hb)
theorem inv_ne {a : α} (h : a ≠ 0) : inv a ≠ 0 := fun e => one_ne (by rw [← mul_inv a h, e, mul_zero])
theorem pw_ne {a : α} (h : a ≠ 0) (n : Nat) : pw a n ≠ 0 := by
  induction n with
  | zero => exact one_ne
  | succ n ih => rw [pw_succ]; exact mul_ne ih h
theorem inv_unique {a b : α} (h : a * b = 1) : b = inv a := by
  have ha : a ≠ 0 := fun e => one_ne (by rw [← h, e, zero_mul])
  exact mul_left_cancel ha (by rw [h, mul_inv a ha])
theorem neg_ne {a : α} (h : a ≠ 0) : -a ≠ 0 := fun e => h (neg_eq_zero e)
end Fd
end Cw
namespace Cw
open Rg

structure PS (α : Type) where
  co : Nat → α

namespace PS
/-- The coefficient. -/
instance {α : Type} : CoeFun (PS α) (fun _ => Nat → α) := ⟨PS.co⟩
theorem ext {α : Type} {a b : PS α} (h : ∀ i, a i = b i) : a = b := by cases a; cases b; exact congrArg PS.mk (funext h)
section ring
variable {α : Type} [Rg α]


def C (c : α) : PS α := ⟨fun i => if i = 0 then c else 0⟩
def X (n : Nat) : PS α := ⟨fun i => if i = n then 1 else 0⟩

instance : Zero (PS α) := ⟨⟨fun _ => 0⟩⟩
instance : One (PS α) := ⟨C 1⟩
instance : Add (PS α) := ⟨fun a b => ⟨fun i => a i + b i⟩⟩
instance : Neg (PS α) := ⟨fun a => ⟨fun i => -a i⟩⟩
instance : Sub (PS α) := ⟨fun a b => ⟨fun i => a i - b i⟩⟩
instance : Mul (PS α) := ⟨fun a b => ⟨fun n => sm (n + 1) (fun i => a i * b (n - i))⟩⟩

theorem zero_at (i : Nat) : (0 : PS α) i = 0 := rfl
theorem one_at (i : Nat) : (1 : PS α) i = if i = 0 then 1 else 0 := rfl
theorem add_at (a b : PS α) (i : Nat) : (a + b) i = a i + b i := rfl
theorem neg_at (a : PS α) (i : Nat) : (-a) i = -a i := rfl
theorem sub_at (a b : PS α) (i : Nat) : (a - b) i = a i - b i := rfl
theorem mul_at (a b : PS α) (n : Nat) : (a * b) n = sm (n + 1) (fun i => a i * b (n - i)) := rfl
theorem C_at (c : α) (i : Nat) : (C c : PS α) i = if i = 0 then c else 0 := rfl
theorem X_at (n i : Nat) : (X n : PS α) i = if i = n then 1 else 0 := rfl

theorem C_mul_at (c : α) (a : PS α) (n : Nat) : (C c * a : PS α) n = c * a n := by
  rw [mul_at, sm_one (k := 0) (by omega) (fun i _ h => by rw [C_at, if_neg h, zero_mul]), C_at, if_pos rfl, Nat.sub_zero]
theorem X_mul_at (k : Nat) (a : PS α) (n : Nat) : (X k * a : PS α) n = if n < k then 0 else a (n - k) := by
  rw [mul_at]
  split
  · exact sm_eq_zero fun i hi => by rw [X_at, if_neg (by omega), zero_mul]
  · rw [sm_one (k := k) (by omega) (fun i _ h => by rw [X_at, if_neg h, zero_mul]), X_at, if_pos rfl, one_mul]

theorem mul_comm' (a b : PS α) : a * b = b * a := ext fun n => by
  rw [mul_at, mul_at, sm_rev]
  exact sm_congr fun i hi => by rw [mul_comm, show n + 1 - 1 - i = n - i by omega, show n - (n - i) = i by omega]
theorem mul_assoc' (a b c : PS α) : a * b * c = a * (b * c) := ext fun n => by
  rw [mul_at, mul_at]
  have e1 : sm (n + 1) (fun k => (a * b) k * c (n - k)) = sm (n + 1) (fun k => sm (k + 1) (fun i => (fun i j => a i * b j * c (n - i - j)) i (k - i))) :=
    sm_congr fun k hk => by
      rw [mul_at, sm_mul]
      exact sm_congr fun i hi => by simp only []; rw [show n - i - (k - i) = n - k by omega]
  rw [e1, sm_tri n (fun i j => a i * b j * c (n - i - j))]
  exact sm_congr fun i hi => by
    rw [mul_at, mul_sm]
    exact sm_congr fun j hj => by rw [mul_assoc]

instance : Rg (PS α) where
  add_assoc a b c := ext fun i => add_assoc _ _ _
  add_comm a b := ext fun i => add_comm _ _
  add_zero a := ext fun i => add_zero _
  add_neg a := ext fun i => add_neg _
  sub_def a b := ext fun i => sub_def _ _
  mul_assoc := mul_assoc'
  mul_comm := mul_comm'
  mul_one a := by rw [mul_comm']; exact ext fun i => by
                    show (C 1 * a : PS α) i = a i
                    rw [C_mul_at, one_mul]
  mul_add a b c := ext fun n => by
    rw [add_at, mul_at, mul_at, mul_at, ← sm_add]
    exact sm_congr fun i _ => mul_add _ _ _

theorem sm_at (n : Nat) (f : Nat → PS α) (i : Nat) : (sm n f) i = sm n (fun j => f j i) := by
  induction n with
  | zero => rfl
  | succ n ih => rw [sm_succ, add_at, ih, sm_succ]

theorem C_zero : (C 0 : PS α) = 0 := ext fun i => by rw [C_at, zero_at]; split <;> rfl
theorem C_one : (C 1 : PS α) = 1 := rfl
theorem C_add (a b : α) : (C (a + b) : PS α) = C a + C b := ext fun i => by rw [add_at, C_at, C_at, C_at]; split <;> simp [add_zero]
theorem C_mul (a b : α) : (C (a * b) : PS α) = C a * C b := ext fun i => by rw [C_mul_at, C_at, C_at]; split <;> simp [mul_zero]
theorem C_neg (a : α) : (C (-a) : PS α) = -C a := ext fun i => by rw [neg_at, C_at, C_at]; split <;> simp [neg_zero]
theorem C_sub (a b : α) : (C (a - b) : PS α) = C a - C b := by rw [sub_def, C_add, C_neg, ← sub_def]
theorem X_zero : (X 0 : PS α) = 1 := rfl
theorem X_add (m n : Nat) : (X (m + n) : PS α) = X m * X n := ext fun i => by
  rw [X_mul_at, X_at, X_at]
  by_cases h : i < m
  · rw [if_pos h, if_neg (by omega)]
  · rw [if_neg h]
    by_cases h2 : i = m + n
    · rw [if_pos h2, if_pos (by omega)]
    · rw [if_neg h2, if_neg (by omega)]

/-- The degree is less than n. -/
def dl (a : PS α) (n : Nat) : Prop := ∀ i, n ≤ i → a i = 0

theorem dl_mono {a : PS α} {m n : Nat} (h : dl a m) (hm : m ≤ n) : dl a n := fun i hi => h i (by omega)
theorem dl_zero (n : Nat) : dl (0 : PS α) n := fun _ _ => rfl
theorem dl_eq_zero {a : PS α} (h : dl a 0) : a = 0 := ext fun i => h i (by omega)
theorem dl_add {a b : PS α} {n : Nat} (ha : dl a n) (hb : dl b n) : dl (a + b) n := fun i hi => by rw [add_at, ha i hi, hb i hi, add_zero]
theorem dl_neg {a : PS α} {n : Nat} (ha : dl a n) : dl (-a) n := fun i hi => by rw [neg_at, ha i hi, neg_zero]
theorem dl_sub {a b : PS α} {n : Nat} (ha : dl a n) (hb : dl b n) : dl (a - b) n := by rw [sub_def]; exact dl_add ha (dl_neg hb)
theorem dl_C (c : α) : dl (C c) 1 := fun i hi => by rw [C_at, if_neg (by omega)]
theorem dl_one : dl (1 : PS α) 1 := dl_C 1
theorem dl_X (n : Nat) : dl (X n : PS α) (n + 1) := fun i hi => by rw [X_at, if_neg (by omega)]
theorem dl_mul {a b : PS α} {m n : Nat} (ha : dl a m) (hb : dl b n) : dl (a * b) (m + n - 1) := fun i hi => by
  rw [mul_at]
  refine sm_eq_zero fun j hj => ?_
  by_cases h : m ≤ j
  · rw [ha j h, zero_mul]
  · by_cases h2 : n ≤ i - j
    · rw [hb _ h2, mul_zero]
    · omega
theorem dl_mul' {a b : PS α} {m n k : Nat} (ha : dl a m) (hb : dl b n) (hk : m + n ≤ k + 1) : dl (a * b) k := dl_mono (dl_mul ha hb) (by omega)
theorem dl_Cmul {a : PS α} {n : Nat} (c : α) (ha : dl a n) : dl (C c * a) n := fun i hi => by rw [C_mul_at, ha i hi, mul_zero]
theorem dl_Xmul {a : PS α} {n : Nat} (k : Nat) (ha : dl a n) : dl (X k * a) (k + n) := fun i hi => by
  rw [X_mul_at, if_neg (by omega), ha _ (by omega)]
theorem dl_sm {n k : Nat} {f : Nat → PS α} (h : ∀ i, i < n → dl (f i) k) : dl (sm n f) k := by
  induction n with
  | zero => exact dl_zero k
  | succ n ih => rw [sm_succ]; exact dl_add (ih fun i hi => h i (by omega)) (h n (by omega))
/-- The product of the top coefficients. -/
theorem mul_top {a b : PS α} {m n : Nat} (ha : dl a (m + 1)) (hb : dl b (n + 1)) : (a * b) (m + n) = a m * b n := by
  rw [mul_at, sm_one (k := m) (by omega) (fun i hi h => ?_), show m + n - m = n by omega]
  by_cases h2 : m + 1 ≤ i
  · rw [ha i h2, zero_mul]
  · rw [hb _ (by omega), mul_zero]
/-- One degree less, where the top coefficient is 0. -/
theorem dl_pred {a : PS α} {n : Nat} (h : dl a (n + 1)) (h0 : a n = 0) : dl a n := fun i hi => by
  by_cases e : i = n
  · rw [e, h0]
  · exact h i (by omega)
/-- A power series with a bound on its degree is the sum of its terms. -/
theorem sum_X {a : PS α} {n : Nat} (h : dl a n) : a = sm n (fun i => C (a i) * X i) := ext fun k => by
  rw [sm_at]
  by_cases hk : k < n
  · rw [sm_one hk (fun i _ hi => by rw [C_mul_at, X_at, if_neg (by omega), mul_zero]), C_mul_at, X_at, if_pos rfl, mul_one]
  · rw [h k (by omega), sm_eq_zero fun i hi => by rw [C_mul_at, X_at, if_neg (by omega), mul_zero]]

/-- The value at x of a polynomial whose degree is less than n. -/
def ev (n : Nat) (a : PS α) (x : α) : α := sm n (fun i => a i * pw x i)
theorem ev_eq {m n : Nat} {a : PS α} (x : α) (hm : dl a m) (hn : dl a n) : ev m a x = ev n a x := by
  have key : ∀ {m n}, m ≤ n → dl a m → ev n a x = ev m a x := fun h hm => sm_short h fun i hi _ => by rw [hm i hi, zero_mul]
  rcases Nat.le_total m n with h | h
  · exact (key h hm).symm
  · exact key h hn
theorem ev_add (n : Nat) (a b : PS α) (x : α) : ev n (a + b) x = ev n a x + ev n b x := by
  unfold ev; rw [← sm_add]; exact sm_congr fun i _ => by rw [add_at, add_mul]
theorem ev_neg (n : Nat) (a : PS α) (x : α) : ev n (-a) x = -ev n a x := by
  unfold ev; rw [← sm_neg]; exact sm_congr fun i _ => by rw [neg_at, neg_mul]
theorem ev_sub (n : Nat) (a b : PS α) (x : α) : ev n (a - b) x = ev n a x - ev n b x := by
  rw [sub_def, ev_add, ev_neg, ← sub_def]
theorem ev_zero (n : Nat) (x : α) : ev n (0 : PS α) x = 0 := sm_eq_zero fun i _ => by rw [zero_at, zero_mul]
theorem ev_Cmul (n : Nat) (c : α) (a : PS α) (x : α) : ev n (C c * a) x = c * ev n a x := by
  unfold ev; rw [mul_sm]; exact sm_congr fun i _ => by rw [C_mul_at, mul_assoc]
theorem ev_C {n : Nat} (hn : 0 < n) (c x : α) : ev n (C c) x = c := by
  unfold ev; rw [sm_one hn (fun i _ h => by rw [C_at, if_neg h, zero_mul]), C_at, if_pos rfl, pw_zero, mul_one]
theorem ev_one {n : Nat} (hn : 0 < n) (x : α) : ev n (1 : PS α) x = 1 := ev_C hn 1 x
theorem ev_Xmul (k n : Nat) (a : PS α) (x : α) : ev (k + n) (X k * a) x = pw x k * ev n a x := by
  unfold ev
  rw [sm_split, sm_eq_zero (n := k) (fun i hi => by rw [X_mul_at, if_pos hi, zero_mul]), zero_add, mul_sm]
  exact sm_congr fun i _ => by rw [X_mul_at, if_neg (by omega), show k + i - k = i by omega, pw_add]; ac_rfl
theorem ev_X {k n : Nat} (hk : k < n) (x : α) : ev n (X k : PS α) x = pw x k := by
  unfold ev; rw [sm_one hk (fun i _ h => by rw [X_at, if_neg h, zero_mul]), X_at, if_pos rfl, one_mul]
theorem ev_sm (n m : Nat) (f : Nat → PS α) (x : α) : ev n (sm m f) x = sm m (fun j => ev n (f j) x) := by
  induction m with
  | zero => exact ev_zero n x
  | succ m ih => rw [sm_succ, ev_add, ih, sm_succ]
theorem ev_mul {m n k : Nat} {a b : PS α} (ha : dl a m) (hb : dl b n) (hk : m + n ≤ k + 1) (x : α) : ev k (a * b) x = ev m a x * ev n b x := by
  have e : ev (m + n) (a * b) x = ev m a x * ev n b x := by
    have ea : a * b = sm m (fun i => C (a i) * (X i * b)) := by
      conv => lhs; rw [sum_X ha]
      rw [sm_mul]; exact sm_congr fun i _ => mul_assoc _ _ _
    rw [ea, ev_sm]
    unfold ev
    rw [sm_mul]
    refine sm_congr fun i hi => ?_
    have h1 := ev_Cmul (m + n) (a i) (X i * b) x
    have h2 := ev_Xmul i n b x
    have h3 : ev (m + n) (X i * b) x = ev (i + n) (X i * b) x := ev_eq x (dl_mono (dl_Xmul i hb) (by omega)) (dl_Xmul i hb)
    rw [show (sm (m + n) fun j => (C (a i) * (X i * b) : PS α) j * pw x j) = ev (m + n) (C (a i) * (X i * b)) x from rfl, h1, h3, h2]
    show _ = a i * pw x i * ev n b x
    ac_rfl
  rw [← e]
  exact ev_eq x (dl_mul' ha hb hk) (dl_mul' ha hb (by omega))

/-- a divides b, with a quotient that is a polynomial. -/
def Dv (a b : PS α) : Prop := ∃ q n, dl q n ∧ b = q * a
theorem Dv_zero (a : PS α) : Dv a 0 := ⟨0, 0, dl_zero 0, (zero_mul a).symm⟩
theorem Dv_refl (a : PS α) : Dv a a := ⟨1, 1, dl_one, (one_mul a).symm⟩
theorem Dv_mul {a b : PS α} (c : PS α) {n : Nat} (hc : dl c n) (h : Dv a b) : Dv a (c * b) := by
  obtain ⟨q, m, hq, rfl⟩ := h; exact ⟨c * q, _, dl_mul hc hq, (mul_assoc _ _ _).symm⟩
theorem Dv_add {a b c : PS α} (h : Dv a b) (k : Dv a c) : Dv a (b + c) := by
  obtain ⟨q, m, hq, rfl⟩ := h; obtain ⟨r, n, hr, rfl⟩ := k
  exact ⟨q + r, m + n, dl_add (dl_mono hq (by omega)) (dl_mono hr (by omega)), (add_mul _ _ _).symm⟩
theorem Dv_neg {a b : PS α} (h : Dv a b) : Dv a (-b) := by
  obtain ⟨q, m, hq, rfl⟩ := h; exact ⟨-q, m, dl_neg hq, (neg_mul _ _).symm⟩
theorem Dv_sub {a b c : PS α} (h : Dv a b) (k : Dv a c) : Dv a (b - c) := by rw [sub_def]; exact Dv_add h (Dv_neg k)
theorem Dv_trans {a b c : PS α} (h : Dv a b) (k : Dv b c) : Dv a c := by
  obtain ⟨q, m, hq, rfl⟩ := h; obtain ⟨r, n, hr, rfl⟩ := k
  exact ⟨r * q, _, dl_mul hr hq, (mul_assoc _ _ _).symm⟩
end ring

section field
open Fd
variable {α : Type} [Fd α]
/-- Division with remainder. -/
theorem div_ex {b : PS α} {d : Nat} (hb : dl b (d + 1)) (h0 : b d ≠ 0) : ∀ (n : Nat) (a : PS α), dl a n → ∃ q r, a = q * b + r ∧ dl r d ∧ dl q (n - d) := by
  intro n
  induction n with
  | zero => exact fun a ha => ⟨0, a, by rw [zero_mul, zero_add], dl_mono ha (by omega), dl_zero _⟩
  | succ n ih =>
    intro a ha
    by_cases hn : n + 1 ≤ d
    · exact ⟨0, a, by rw [zero_mul, zero_add], dl_mono ha hn, dl_zero _⟩
    · have hd : d ≤ n := by omega
      have hda : dl (a - C (a n * inv (b d)) * (X (n - d) * b)) n := by
        refine dl_pred (dl_sub ha (dl_Cmul _ (dl_mono (dl_Xmul (n - d) hb) (by omega)))) ?_
        rw [sub_at, C_mul_at, X_mul_at, if_neg (by omega), show n - (n - d) = d by omega, mul_assoc, inv_mul h0, mul_one, sub_self]
      obtain ⟨q, r, he, hr, hq⟩ := ih _ hda
      refine ⟨q + C (a n * inv (b d)) * X (n - d), r, ?_, hr, dl_add (dl_mono hq (by omega)) (dl_Cmul _ (dl_mono (dl_X _) (by omega)))⟩
      generalize C (a n * inv (b d)) = c at *
      have : a = (a - c * (X (n - d) * b)) + c * (X (n - d) * b) := (sub_add_cancel _ _).symm
      rw [this, he, add_mul]
      ac_rfl
/-- A product with a polynomial of degree d is of a degree below d only if it is 0. -/
theorem mul_low {b q : PS α} {d n : Nat} (hb : dl b (d + 1)) (h0 : b d ≠ 0) (hq : dl q n) (h : dl (q * b) d) : q = 0 := by
  induction n with
  | zero => exact dl_eq_zero hq
  | succ n ih =>
    refine ih (dl_pred hq ?_)
    have := mul_top hq hb
    rw [h (n + d) (by omega)] at this
    rcases mul_eq_zero this.symm with e | e
    · exact e
    · exact absurd e h0
theorem div_unique {b q r q' r' : PS α} {d n n' : Nat} (hb : dl b (d + 1)) (h0 : b d ≠ 0) (hq : dl q n) (hq' : dl q' n') (hr : dl r d) (hr' : dl r' d)
    (h : q * b + r = q' * b + r') : q = q' ∧ r = r' := by
  have e : (q - q') * b = r' - r := by
    have h1 : q * b + r - q' * b - r = r' - r := by rw [h]; rw [show q' * b + r' = r' + q' * b by ac_rfl, add_sub_cancel]
    rw [← h1, sub_mul]
    simp only [sub_def]
    have : q * b + r + -(q' * b) + -r = (q * b + -(q' * b)) + (r + -r) := by ac_rfl
    rw [this, add_neg, add_zero]
  have hz : q - q' = 0 := mul_low hb h0 (n := n + n') (dl_sub (dl_mono hq (by omega)) (dl_mono hq' (by omega))) (by rw [e]; exact dl_sub hr' hr)
  have hqq := sub_eq_zero hz
  subst hqq
  exact ⟨rfl, add_left_cancel h⟩
/-- A polynomial other than 0 has a degree. -/
theorem deg_ex {a : PS α} {n : Nat} (h : dl a n) (h0 : a ≠ 0) : ∃ d, d < n ∧ dl a (d + 1) ∧ a d ≠ 0 := by
  induction n with
  | zero => exact absurd (dl_eq_zero h) h0
  | succ n ih =>
    by_cases e : a n = 0
    · obtain ⟨d, hd, h1, h2⟩ := ih (dl_pred h e)
      exact ⟨d, by omega, h1, h2⟩
    · exact ⟨n, by omega, h, e⟩
theorem ps_mul_ne {a b : PS α} {m n : Nat} (ha : dl a m) (hb : dl b n) (ha0 : a ≠ 0) (hb0 : b ≠ 0) : a * b ≠ 0 := fun h => by
  obtain ⟨d, _, h1, h2⟩ := deg_ex ha ha0
  obtain ⟨e, _, h3, h4⟩ := deg_ex hb hb0
  have := mul_top h1 h3
  rw [h, zero_at] at this
  exact mul_ne h2 h4 this.symm
theorem ps_mul_cancel {a b c : PS α} {m n k : Nat} (ha : dl a m) (hb : dl b n) (hc : dl c k) (ha0 : a ≠ 0) (h : a * b = a * c) : b = c := by
  by_cases e : b - c = 0
  · exact sub_eq_zero e
  · refine absurd ?_ (ps_mul_ne ha (dl_sub (n := n + k) (dl_mono hb (by omega)) (dl_mono hc (by omega))) ha0 e)
    rw [mul_sub, h, sub_self]
/-- The factor theorem. -/
theorem root_factor {a : PS α} {n : Nat} {x : α} (ha : dl a (n + 1)) (h : ev (n + 1) a x = 0) : ∃ q, a = q * (X 1 - C x) ∧ dl q n := by
  have hb : dl (X 1 - C x : PS α) (1 + 1) := dl_sub (dl_X 1) (dl_mono (dl_C x) (by omega))
  have h1 : (X 1 - C x : PS α) 1 = 1 := by rw [sub_at, X_at, C_at, if_pos rfl, if_neg (by omega), sub_zero]
  obtain ⟨q, r, he, hr, hq⟩ := div_ex hb (by rw [h1]; exact one_ne) _ a ha
  refine ⟨q, ?_, dl_mono hq (by omega)⟩
  have hr0 : r 0 = 0 := by
    have e1 := ev_add (n + 2) (q * (X 1 - C x)) r x
    rw [← he, ev_mul (m := n) (n := 2) (k := n + 2) (dl_mono hq (by omega)) hb (by omega), ev_sub, ev_X (by omega), ev_C (by omega), pw_one, sub_self, mul_zero, zero_add,
      ev_eq x (dl_mono ha (by omega)) ha, h] at e1
    rw [e1]
    unfold ev
    rw [sm_one (k := 0) (by omega) (fun i _ hi => by rw [hr i (by omega), zero_mul]), pw_zero, mul_one]
  have : r = 0 := dl_eq_zero (dl_pred hr hr0)
  rw [this, add_zero] at he
  exact he
/-- A polynomial other than 0 has at most as many roots as its degree. -/
theorem roots_le {n : Nat} : ∀ {a : PS α} {l : List α}, dl a n → a ≠ 0 → l.Nodup → (∀ x ∈ l, ev n a x = 0) → l.length < n := by
  induction n with
  | zero => exact fun ha h0 => absurd (dl_eq_zero ha) h0
  | succ n ih =>
    intro a l ha h0 hl hr
    cases l with
    | nil => simp
    | cons x l =>
      obtain ⟨q, he, hq⟩ := root_factor ha (hr x (by simp))
      have hq0 : q ≠ 0 := fun e => h0 (by rw [he, e, zero_mul])
      have hl' := List.nodup_cons.1 hl
      refine Nat.succ_lt_succ (ih hq hq0 hl'.2 fun y hy => ?_)
      have h1 := hr y (by simp [hy])
      rw [he, ev_mul hq (n := 2) (dl_sub (dl_X 1) (dl_mono (dl_C x) (by omega))) (by omega), ev_sub, ev_X (by omega), ev_C (by omega), pw_one] at h1
      rcases mul_eq_zero h1 with e | e
      · exact e
      · exact absurd (sub_eq_zero e ▸ hy) hl'.1
end field
end PS
end Cw
namespace Cw
open Rg Fd PS

/-- A polynomial: a power series with finitely many coefficients. -/
structure Pl (α : Type) [Fd α] where
  a : PS α
  h : ∃ n, dl a n

namespace Pl
variable {α : Type} [Fd α]
theorem ext {x y : Pl α} (h : x.a = y.a) : x = y := by cases x; cases y; cases h; rfl
theorem two {p q : PS α} (hp : ∃ n, dl p n) (hq : ∃ n, dl q n) : ∃ n, dl p n ∧ dl q n := by
  obtain ⟨m, hm⟩ := hp; obtain ⟨n, hn⟩ := hq
  exact ⟨m + n, dl_mono hm (by omega), dl_mono hn (by omega)⟩
instance : Zero (Pl α) := ⟨⟨0, 0, dl_zero 0⟩⟩
instance : One (Pl α) := ⟨⟨1, 1, dl_one⟩⟩
instance : Add (Pl α) := ⟨fun x y => ⟨x.a + y.a, let ⟨n, h1, h2⟩ := two x.h y.h; ⟨n, dl_add h1 h2⟩⟩⟩
instance : Sub (Pl α) := ⟨fun x y => ⟨x.a - y.a, let ⟨n, h1, h2⟩ := two x.h y.h; ⟨n, dl_sub h1 h2⟩⟩⟩
instance : Neg (Pl α) := ⟨fun x => ⟨-x.a, let ⟨n, h1⟩ := x.h; ⟨n, dl_neg h1⟩⟩⟩
instance : Mul (Pl α) := ⟨fun x y => ⟨x.a * y.a, let ⟨_, h1, h2⟩ := two x.h y.h; ⟨_, dl_mul h1 h2⟩⟩⟩
theorem zero_a : (0 : Pl α).a = 0 := rfl
theorem one_a : (1 : Pl α).a = 1 := rfl
theorem add_a (x y : Pl α) : (x + y).a = x.a + y.a := rfl
theorem sub_a (x y : Pl α) : (x - y).a = x.a - y.a := rfl
theorem neg_a (x : Pl α) : (-x).a = -x.a := rfl
theorem mul_a (x y : Pl α) : (x * y).a = x.a * y.a := rfl
instance : Rg (Pl α) where
  add_assoc _ _ _ := ext (Rg.add_assoc _ _ _)
  add_comm _ _ := ext (Rg.add_comm _ _)
  add_zero _ := ext (Rg.add_zero _)
  add_neg _ := ext (Rg.add_neg _)
  sub_def _ _ := ext (Rg.sub_def _ _)
  mul_assoc _ _ _ := ext (Rg.mul_assoc _ _ _)
  mul_comm _ _ := ext (Rg.mul_comm _ _)
  mul_one _ := ext (Rg.mul_one _)
  mul_add _ _ _ := ext (Rg.mul_add _ _ _)
/-- A constant; a power of x. -/
def c (x : α) : Pl α := ⟨C x, 1, dl_C x⟩
def x (n : Nat) : Pl α := ⟨X n, n + 1, dl_X n⟩
theorem c_a (y : α) : (c y : Pl α).a = C y := rfl
theorem x_a (n : Nat) : (x n : Pl α).a = X n := rfl
theorem sm_a (n : Nat) (f : Nat → Pl α) : (sm n f).a = sm n (fun i => (f i).a) := by
  induction n with
  | zero => rfl
  | succ n ih => rw [sm_succ, sm_succ, add_a, ih]
theorem pw_a (p : Pl α) (n : Nat) : (pw p n).a = pw p.a n := by
  induction n with
  | zero => rfl
  | succ n ih => rw [pw_succ, pw_succ, mul_a, ih]
theorem c_zero : (c 0 : Pl α) = 0 := ext C_zero
theorem c_one : (c 1 : Pl α) = 1 := rfl
theorem c_add (y z : α) : (c (y + z) : Pl α) = c y + c z := ext (C_add _ _)
theorem c_sub (y z : α) : (c (y - z) : Pl α) = c y - c z := ext (C_sub _ _)
theorem c_neg (y : α) : (c (-y) : Pl α) = -c y := ext (C_neg _)
theorem c_mul (y z : α) : (c (y * z) : Pl α) = c y * c z := ext (C_mul _ _)
theorem x_zero : (x 0 : Pl α) = 1 := rfl
theorem x_add (m n : Nat) : (x (m + n) : Pl α) = x m * x n := ext (X_add _ _)
theorem at_zero (i : Nat) : (0 : Pl α).a i = 0 := rfl
theorem c_mul_at (y : α) (p : Pl α) (i : Nat) : (c y * p).a i = y * p.a i := C_mul_at _ _ _
theorem x_mul_at (n : Nat) (p : Pl α) (i : Nat) : (x n * p).a i = if i < n then 0 else p.a (i - n) := X_mul_at _ _ _
theorem x_at (n i : Nat) : (x n : Pl α).a i = if i = n then 1 else 0 := rfl
theorem c_at (y : α) (i : Nat) : (c y : Pl α).a i = if i = 0 then y else 0 := rfl

/-- The length: one more than the degree, and 0 for the zero polynomial. -/
theorem ln_ex (p : Pl α) : ∃ n, dl p.a n ∧ (n = 0 ∨ p.a (n - 1) ≠ 0) := by
  obtain ⟨n, hn⟩ := p.h
  by_cases h : p.a = 0
  · exact ⟨0, by rw [h]; exact dl_zero 0, .inl rfl⟩
  · obtain ⟨d, _, h1, h2⟩ := deg_ex hn h
    exact ⟨d + 1, h1, .inr h2⟩
noncomputable def ln (p : Pl α) : Nat := (ln_ex p).choose
theorem ln_dl (p : Pl α) : dl p.a p.ln := (ln_ex p).choose_spec.1
theorem ln_le {p : Pl α} {n : Nat} : p.ln ≤ n ↔ dl p.a n := by
  constructor
  · exact fun h => dl_mono p.ln_dl h
  · intro h
    rcases (ln_ex p).choose_spec.2 with e | e
    · have : p.ln = 0 := e
      omega
    · rcases Nat.lt_or_ge n p.ln with g | g
      · exact absurd (h _ (by omega)) (show p.a (p.ln - 1) ≠ 0 from e)
      · exact g
theorem ln_zero : (0 : Pl α).ln = 0 := Nat.le_zero.1 (ln_le.2 (dl_zero 0))
theorem ln_eq_zero {p : Pl α} : p.ln = 0 ↔ p = 0 := ⟨fun h => ext (dl_eq_zero (ln_le.1 (by omega))), fun h => by rw [h, ln_zero]⟩
theorem ln_pos {p : Pl α} (h : p ≠ 0) : 0 < p.ln := Nat.pos_of_ne_zero fun e => h (ln_eq_zero.1 e)
theorem ln_top {p : Pl α} (h : p ≠ 0) : p.a (p.ln - 1) ≠ 0 := by
  rcases (ln_ex p).choose_spec.2 with e | e
  · exact absurd (ln_eq_zero.1 e) h
  · exact e
theorem ln_eq {p : Pl α} {d : Nat} (h : dl p.a (d + 1)) (h0 : p.a d ≠ 0) : p.ln = d + 1 := by
  have h1 := ln_le.2 h
  rcases Nat.lt_or_ge d p.ln with g | g
  · omega
  · exact absurd (p.ln_dl d g) h0
theorem ne_of_at {p : Pl α} {i : Nat} (h : p.a i ≠ 0) : p ≠ 0 := fun e => h (by rw [e]; rfl)
theorem deg {p : Pl α} (h : p ≠ 0) : ∃ d, p.ln = d + 1 ∧ dl p.a (d + 1) ∧ p.a d ≠ 0 := by
  obtain ⟨d, hd⟩ : ∃ d, p.ln = d + 1 := ⟨p.ln - 1, by have := ln_pos h; omega⟩
  have h1 := ln_top h
  have h2 := p.ln_dl
  rw [hd] at h1 h2
  exact ⟨d, hd, h2, h1⟩
theorem ln_add_le {p q : Pl α} {n : Nat} (hp : p.ln ≤ n) (hq : q.ln ≤ n) : (p + q).ln ≤ n := ln_le.2 (dl_add (ln_le.1 hp) (ln_le.1 hq))
theorem ln_sub_le {p q : Pl α} {n : Nat} (hp : p.ln ≤ n) (hq : q.ln ≤ n) : (p - q).ln ≤ n := ln_le.2 (dl_sub (ln_le.1 hp) (ln_le.1 hq))
theorem ln_neg (p : Pl α) : (-p).ln = p.ln := by
  have h1 : (-p).ln ≤ p.ln := ln_le.2 (dl_neg p.ln_dl)
  have h2 : (- -p).ln ≤ (-p).ln := ln_le.2 (dl_neg (-p).ln_dl)
  rw [neg_neg] at h2
  omega
theorem ln_mul {p q : Pl α} (hp : p ≠ 0) (hq : q ≠ 0) : (p * q).ln + 1 = p.ln + q.ln := by
  obtain ⟨d, e1, h1, h2⟩ := deg hp
  obtain ⟨e, e2, h3, h4⟩ := deg hq
  have : (p * q).ln = d + e + 1 := ln_eq (dl_mul' h1 h3 (by omega)) (by rw [mul_a, mul_top h1 h3]; exact Fd.mul_ne h2 h4)
  omega
theorem ln_mul_le (p q : Pl α) : (p * q).ln ≤ p.ln + q.ln - 1 := ln_le.2 (dl_mul p.ln_dl q.ln_dl)
theorem mul_ne {p q : Pl α} (hp : p ≠ 0) (hq : q ≠ 0) : p * q ≠ 0 := fun e => by
  have h := ln_mul hp hq
  have h1 := ln_pos hp
  have h2 := ln_pos hq
  rw [e, ln_zero] at h
  omega
theorem mul_eq_zero {p q : Pl α} (h : p * q = 0) : p = 0 ∨ q = 0 := by
  by_cases hp : p = 0
  · exact .inl hp
  · by_cases hq : q = 0
    · exact .inr hq
    · exact absurd h (mul_ne hp hq)
theorem mul_left_cancel {p q r : Pl α} (hp : p ≠ 0) (h : p * q = p * r) : q = r := by
  have : p * (q - r) = 0 := by rw [mul_sub, h, sub_self]
  rcases mul_eq_zero this with e | e
  · exact absurd e hp
  · exact sub_eq_zero e
theorem mul_right_cancel {p q r : Pl α} (hp : p ≠ 0) (h : q * p = r * p) : q = r := mul_left_cancel hp (by rw [mul_comm p, mul_comm p]; exact h)
theorem one_ne : (1 : Pl α) ≠ 0 := ne_of_at (i := 0) (by rw [one_a, one_at, if_pos rfl]; exact Fd.one_ne)
theorem c_ne {y : α} (h : y ≠ 0) : (c y : Pl α) ≠ 0 := ne_of_at (i := 0) (by rw [c_at, if_pos rfl]; exact h)
theorem x_ne (n : Nat) : (x n : Pl α) ≠ 0 := ne_of_at (i := n) (by rw [x_at, if_pos rfl]; exact Fd.one_ne)
theorem ln_c {y : α} (h : y ≠ 0) : (c y : Pl α).ln = 1 := ln_eq (d := 0) (dl_C y) (by rw [c_at, if_pos rfl]; exact h)
theorem ln_c_le (y : α) : (c y : Pl α).ln ≤ 1 := ln_le.2 (dl_C y)
theorem ln_one : (1 : Pl α).ln = 1 := ln_c Fd.one_ne
theorem ln_x (n : Nat) : (x n : Pl α).ln = n + 1 := ln_eq (dl_X n) (by rw [x_at, if_pos rfl]; exact Fd.one_ne)
theorem of_ln_one {p : Pl α} (h : p.ln ≤ 1) : p = c (p.a 0) := ext (PS.ext fun i => by
  rw [c_at]
  cases i with
  | zero => rw [if_pos rfl]
  | succ i => rw [if_neg (by omega)]; exact ln_le.1 h _ (by omega))
theorem ln_cmul {y : α} (h : y ≠ 0) (p : Pl α) : (c y * p).ln = p.ln := by
  by_cases hp : p = 0
  · rw [hp, mul_zero]
  · have := ln_mul (c_ne h) hp
    rw [ln_c h] at this
    omega
theorem ln_cmul_le (y : α) (p : Pl α) : (c y * p).ln ≤ p.ln := ln_le.2 (dl_Cmul y p.ln_dl)
theorem ln_add_eq {p q : Pl α} (h : q.ln < p.ln) : (p + q).ln = p.ln := by
  have hp : p ≠ 0 := fun e => by rw [e, ln_zero] at h; omega
  obtain ⟨d, e1, h1, h2⟩ := deg hp
  rw [e1]
  refine ln_eq (ln_le.1 (ln_add_le (by omega) (by omega))) ?_
  have h3 : q.a d = 0 := q.ln_dl d (by omega)
  show p.a d + q.a d ≠ 0
  rw [h3, add_zero]
  exact h2

/-! ### Division with remainder -/
theorem div_ex (a : Pl α) {b : Pl α} (hb : b ≠ 0) : ∃ q r : Pl α, a = q * b + r ∧ r.ln < b.ln := by
  obtain ⟨d, e, h1, h2⟩ := deg hb
  obtain ⟨q, r, he, hr, hq⟩ := PS.div_ex h1 h2 _ a.a a.ln_dl
  refine ⟨⟨q, _, hq⟩, ⟨r, _, hr⟩, ext he, ?_⟩
  rw [e]
  exact Nat.lt_succ_of_le (ln_le.2 hr)
theorem div_unique {b q r q' r' : Pl α} (h : q * b + r = q' * b + r') (hr : r.ln < b.ln) (hr' : r'.ln < b.ln) : q = q' ∧ r = r' := by
  have hb : b ≠ 0 := fun e => by rw [e, ln_zero] at hr; omega
  have e : (q - q') * b = r' - r := by
    have h1 : q * b + r - q' * b - r = r' - r := by rw [h, show q' * b + r' = r' + q' * b by ac_rfl, add_sub_cancel]
    rw [← h1, sub_mul]
    simp only [sub_def]
    have : q * b + r + -(q' * b) + -r = (q * b + -(q' * b)) + (r + -r) := by ac_rfl
    rw [this, add_neg, add_zero]
  have hz : q - q' = 0 := by
    by_cases hq : q - q' = 0
    · exact hq
    · have h1 := ln_mul hq hb
      have h2 := ln_pos hq
      have h3 : ((q - q') * b).ln ≤ b.ln - 1 := by rw [e]; exact ln_sub_le (by omega) (by omega)
      omega
  have hqq := sub_eq_zero hz
  subst hqq
  exact ⟨rfl, add_left_cancel h⟩
theorem qr_ex (a b : Pl α) : ∃ qr : Pl α × Pl α, a = qr.1 * b + qr.2 ∧ (b ≠ 0 → qr.2.ln < b.ln) ∧ (b = 0 → qr.1 = 0) := by
  by_cases hb : b = 0
  · exact ⟨(0, a), by rw [zero_mul, zero_add], fun h => absurd hb h, fun _ => rfl⟩
  · obtain ⟨q, r, h1, h2⟩ := div_ex a hb
    exact ⟨(q, r), h1, fun _ => h2, fun h => absurd h hb⟩
noncomputable def quo (a b : Pl α) : Pl α := (qr_ex a b).choose.1
noncomputable def rem (a b : Pl α) : Pl α := (qr_ex a b).choose.2
theorem div_eq (a b : Pl α) : a = quo a b * b + rem a b := (qr_ex a b).choose_spec.1
theorem rem_lt (a : Pl α) {b : Pl α} (h : b ≠ 0) : (rem a b).ln < b.ln := (qr_ex a b).choose_spec.2.1 h
theorem div_of {a b q r : Pl α} (h : a = q * b + r) (hr : r.ln < b.ln) : quo a b = q ∧ rem a b = r := by
  have hb : b ≠ 0 := fun e => by rw [e, ln_zero] at hr; omega
  exact div_unique ((div_eq a b).symm.trans h) (rem_lt a hb) hr
theorem quo_of {a b q r : Pl α} (h : a = q * b + r) (hr : r.ln < b.ln) : quo a b = q := (div_of h hr).1
theorem rem_of {a b q r : Pl α} (h : a = q * b + r) (hr : r.ln < b.ln) : rem a b = r := (div_of h hr).2

/-! ### Divisibility -/
def Dvd (p q : Pl α) : Prop := ∃ k : Pl α, q = k * p
theorem dvd_refl (p : Pl α) : Dvd p p := ⟨1, (one_mul p).symm⟩
theorem dvd_zero (p : Pl α) : Dvd p 0 := ⟨0, (zero_mul p).symm⟩
theorem dvd_trans {p q r : Pl α} (h : Dvd p q) (k : Dvd q r) : Dvd p r := by
  obtain ⟨x, rfl⟩ := h; obtain ⟨y, rfl⟩ := k; exact ⟨y * x, (mul_assoc _ _ _).symm⟩
theorem dvd_mul {p q : Pl α} (r : Pl α) (h : Dvd p q) : Dvd p (r * q) := by
  obtain ⟨x, rfl⟩ := h; exact ⟨r * x, (mul_assoc _ _ _).symm⟩
theorem dvd_mul' {p q : Pl α} (r : Pl α) (h : Dvd p q) : Dvd p (q * r) := by rw [mul_comm]; exact dvd_mul r h
theorem dvd_add {p q r : Pl α} (h : Dvd p q) (k : Dvd p r) : Dvd p (q + r) := by
  obtain ⟨x, rfl⟩ := h; obtain ⟨y, rfl⟩ := k; exact ⟨x + y, (add_mul _ _ _).symm⟩
theorem dvd_neg {p q : Pl α} (h : Dvd p q) : Dvd p (-q) := by obtain ⟨x, rfl⟩ := h; exact ⟨-x, (neg_mul _ _).symm⟩
theorem dvd_sub {p q r : Pl α} (h : Dvd p q) (k : Dvd p r) : Dvd p (q - r) := by rw [sub_def]; exact dvd_add h (dvd_neg k)
theorem dvd_ln {p q : Pl α} (h : Dvd p q) (hq : q ≠ 0) : p.ln ≤ q.ln := by
  obtain ⟨k, rfl⟩ := h
  have hk : k ≠ 0 := fun e => hq (by rw [e, zero_mul])
  have hp : p ≠ 0 := fun e => hq (by rw [e, mul_zero])
  have := ln_mul hk hp
  have := ln_pos hk
  omega
theorem zero_dvd {q : Pl α} (h : Dvd 0 q) : q = 0 := by obtain ⟨k, rfl⟩ := h; exact mul_zero k
theorem rem_zero {a b : Pl α} (hb : b ≠ 0) : rem a b = 0 ↔ Dvd b a := by
  constructor
  · intro h
    have := div_eq a b
    rw [h, add_zero] at this
    exact ⟨_, this⟩
  · rintro ⟨k, h⟩
    exact rem_of (q := k) (by rw [h, add_zero]) (by rw [ln_zero]; exact ln_pos hb)
theorem rem_dvd {p a b : Pl α} (ha : Dvd p a) (hb : Dvd p b) : Dvd p (rem a b) := by
  have h : rem a b = a - quo a b * b := (sub_eq (by rw [add_comm]; exact div_eq a b)).symm
  rw [h]
  exact dvd_sub ha (dvd_mul _ hb)
theorem dvd_of_rem {p a b : Pl α} (hr : Dvd p (rem a b)) (hb : Dvd p b) : Dvd p a := by
  rw [div_eq a b]
  exact dvd_add (dvd_mul _ hb) hr
theorem c_dvd {y : α} (h : y ≠ 0) {p q : Pl α} : Dvd (c y * p) q ↔ Dvd p q := by
  constructor
  · rintro ⟨k, rfl⟩
    exact ⟨k * c y, by rw [mul_assoc]⟩
  · rintro ⟨k, rfl⟩
    exact ⟨k * c (inv y), by
      have : k * c (inv y) * (c y * p) = k * (c (inv y) * c y) * p := by ac_rfl
      rw [this, ← c_mul, Fd.inv_mul h, c_one, mul_one]⟩

/-! ### The leading coefficient; monic polynomials -/
noncomputable def lc (p : Pl α) : α := p.a (p.ln - 1)
noncomputable def mon (p : Pl α) : Pl α := c (inv p.lc) * p
theorem lc_ne {p : Pl α} (h : p ≠ 0) : p.lc ≠ 0 := ln_top h
theorem mon_zero : mon (0 : Pl α) = 0 := mul_zero _
theorem ln_mon (p : Pl α) : (mon p).ln = p.ln := by
  by_cases h : p = 0
  · rw [h, mon_zero]
  · exact ln_cmul (inv_ne (lc_ne h)) p
theorem mon_eq_zero {p : Pl α} : mon p = 0 ↔ p = 0 := by rw [← ln_eq_zero, ln_mon, ln_eq_zero]
theorem lc_mon {p : Pl α} (h : p ≠ 0) : (mon p).lc = 1 := by
  unfold lc
  rw [ln_mon]
  show (c (inv p.lc) * p).a _ = 1
  rw [c_mul_at]
  exact inv_mul (lc_ne h)
theorem mon_back {p : Pl α} (h : p ≠ 0) : c p.lc * mon p = p := by
  unfold mon
  rw [← mul_assoc, ← c_mul, mul_inv _ (lc_ne h), c_one, one_mul]
theorem inv_one : inv (1 : α) = 1 := (inv_unique (mul_one 1)).symm
theorem mon_of {p : Pl α} (h : p.lc = 1) : mon p = p := by unfold mon; rw [h, inv_one, c_one, one_mul]
theorem mon_mon (p : Pl α) : mon (mon p) = mon p := by
  by_cases h : p = 0
  · rw [h, mon_zero, mon_zero]
  · exact mon_of (lc_mon h)
theorem mon_dvd {p q : Pl α} : Dvd (mon p) q ↔ Dvd p q := by
  by_cases h : p = 0
  · rw [h, mon_zero]
  · exact c_dvd (inv_ne (lc_ne h))
theorem dvd_mon {p q : Pl α} (h : Dvd p q) : Dvd p (mon q) := dvd_mul _ h
theorem lc_mul {p q : Pl α} (hp : p ≠ 0) (hq : q ≠ 0) : (p * q).lc = p.lc * q.lc := by
  obtain ⟨d, e1, h1, h2⟩ := deg hp
  obtain ⟨e, e2, h3, h4⟩ := deg hq
  have := ln_mul hp hq
  unfold lc
  rw [show (p * q).ln - 1 = d + e by omega, e1, e2, mul_a, mul_top h1 h3]
  rfl
/-- Monic polynomials that divide each other are equal. -/
theorem dvd_antisymm {p q : Pl α} (h : Dvd p q) (k : Dvd q p) : mon p = mon q := by
  by_cases hp : p = 0
  · subst hp
    rw [zero_dvd h]
  have hq : q ≠ 0 := fun e => hp (by rw [e] at k; exact zero_dvd k)
  have h1 := dvd_ln h hq
  have h2 := dvd_ln k hp
  obtain ⟨y, rfl⟩ := h
  have hy : y ≠ 0 := fun e => hq (by rw [e, zero_mul])
  have h3 := ln_mul hy hp
  have h4 := of_ln_one (p := y) (by omega)
  have hy0 : y.a 0 ≠ 0 := fun e => hy (by rw [h4, e, c_zero])
  have h5 : (y * p).lc = y.a 0 * p.lc := by
    rw [lc_mul hy hp]
    unfold lc
    rw [show y.ln - 1 = 0 by omega]
  unfold mon
  rw [h5, ← mul_assoc, congrArg (c (inv (y.a 0 * p.lc)) * · * p) h4]
  show _ = c (inv (y.a 0 * p.lc)) * c (y.a 0) * p
  rw [← c_mul]
  congr 2
  refine Fd.mul_left_cancel (lc_ne hp) ?_
  rw [mul_inv _ (lc_ne hp)]
  have : p.lc * (inv (y.a 0 * p.lc) * y.a 0) = (y.a 0 * p.lc) * inv (y.a 0 * p.lc) := by ac_rfl
  rw [this, mul_inv _ (Fd.mul_ne hy0 (lc_ne hp))]

/-! ### Greatest common divisors -/
structure IsGcd (a b d : Pl α) : Prop where
  m : mon d = d
  l : Dvd d a
  r : Dvd d b
  g : ∀ p, Dvd p a → Dvd p b → Dvd p d
theorem gcd_unique {a b d d' : Pl α} (h : IsGcd a b d) (k : IsGcd a b d') : d = d' := by
  rw [← h.m, ← k.m]
  exact dvd_antisymm (k.g _ h.l h.r) (h.g _ k.l k.r)
theorem gcd_base (a : Pl α) : IsGcd a 0 (mon a) := ⟨mon_mon a, mon_dvd.2 (dvd_refl a), dvd_zero _, fun _ h _ => dvd_mon h⟩
theorem gcd_step {a b d : Pl α} (h : IsGcd b (rem a b) d) : IsGcd a b d := ⟨h.m, dvd_of_rem h.r h.l, h.l, fun p ha hb => h.g p hb (rem_dvd ha hb)⟩
theorem gcd_back {a b d : Pl α} (h : IsGcd a b d) : IsGcd b (rem a b) d := ⟨h.m, h.r, rem_dvd h.l h.r, fun p hb hr => h.g p (dvd_of_rem hr hb) hb⟩
theorem gcd_ex : ∀ (n : Nat) (a b : Pl α), b.ln ≤ n → ∃ d, IsGcd a b d
  | 0, a, b, h => by
    rw [ln_eq_zero.1 (Nat.le_zero.1 h)]
    exact ⟨_, gcd_base a⟩
  | n + 1, a, b, h => by
    by_cases hb : b = 0
    · rw [hb]; exact ⟨_, gcd_base a⟩
    · have := rem_lt a hb
      obtain ⟨d, hd⟩ := gcd_ex n b (rem a b) (by omega)
      exact ⟨d, gcd_step hd⟩
noncomputable def gcd (a b : Pl α) : Pl α := (gcd_ex _ a b (Nat.le_refl _)).choose
theorem gcd_is (a b : Pl α) : IsGcd a b (gcd a b) := (gcd_ex _ a b (Nat.le_refl _)).choose_spec
theorem gcd_of {a b d : Pl α} (h : IsGcd a b d) : gcd a b = d := gcd_unique (gcd_is a b) h
theorem gcd_zero (a : Pl α) : gcd a 0 = mon a := gcd_of (gcd_base a)
theorem gcd_rem (a b : Pl α) : gcd b (rem a b) = gcd a b := gcd_of (gcd_back (gcd_is a b))
theorem gcd_eq_zero {a b : Pl α} : gcd a b = 0 ↔ a = 0 ∧ b = 0 := by
  constructor
  · intro h
    have := gcd_is a b
    rw [h] at this
    exact ⟨zero_dvd this.l, zero_dvd this.r⟩
  · rintro ⟨rfl, rfl⟩
    rw [gcd_zero, mon_zero]
theorem gcd_lc {a b : Pl α} (h : gcd a b ≠ 0) : (gcd a b).lc = 1 := by
  rw [← (gcd_is a b).m]
  exact lc_mon h

/-- The greatest common divisor as a combination. -/
theorem bez_ex : ∀ (n : Nat) (a b : Pl α), b.ln ≤ n → ∃ u v, gcd a b = u * a + v * b
  | 0, a, b, h => by
    rw [ln_eq_zero.1 (Nat.le_zero.1 h), gcd_zero]
    exact ⟨c (inv a.lc), 0, by rw [zero_mul, add_zero]; rfl⟩
  | n + 1, a, b, h => by
    by_cases hb : b = 0
    · rw [hb, gcd_zero]
      exact ⟨c (inv a.lc), 0, by rw [zero_mul, add_zero]; rfl⟩
    · have := rem_lt a hb
      obtain ⟨u, v, e⟩ := bez_ex n b (rem a b) (by omega)
      refine ⟨v, u - v * quo a b, ?_⟩
      have h1 : rem a b = a - quo a b * b := (sub_eq (by rw [add_comm]; exact div_eq a b)).symm
      rw [← gcd_rem, e, h1, sub_mul, mul_sub, ← mul_assoc]
      simp only [sub_def]
      generalize u * b = x1
      generalize v * a = x2
      generalize v * quo a b * b = x3
      ac_rfl
theorem bez (a b : Pl α) : ∃ u v, gcd a b = u * a + v * b := bez_ex _ a b (Nat.le_refl _)
/-- Two polynomials without a common divisor but constants. -/
def Cop (a b : Pl α) : Prop := gcd a b = 1
theorem mon_one : mon (1 : Pl α) = 1 := mon_of (by unfold lc; rw [ln_one]; rw [one_a, one_at, if_pos rfl])
theorem cop_of {a b : Pl α} (h0 : ¬ (a = 0 ∧ b = 0)) (h : ∀ p, Dvd p a → Dvd p b → p.ln ≤ 1) : Cop a b := by
  have k := gcd_is a b
  have hz : gcd a b ≠ 0 := fun e => h0 (gcd_eq_zero.1 e)
  have h1 := of_ln_one (h _ k.l k.r)
  have h2 : (gcd a b).a 0 ≠ 0 := fun e => hz (by rw [h1, e, c_zero])
  have h3 := gcd_lc hz
  unfold Cop
  unfold lc at h3
  rw [show (gcd a b).ln - 1 = 0 by have := h _ k.l k.r; omega] at h3
  rw [h1, h3, c_one]
theorem cop_comm {a b : Pl α} (h : Cop a b) : Cop b a := by
  have k := gcd_is a b
  exact (gcd_of ⟨k.m, k.r, k.l, fun p ha hb => k.g p hb ha⟩).trans h
theorem cop_dvd {a b p : Pl α} (h : Cop a b) (k : Dvd a (p * b)) : Dvd a p := by
  obtain ⟨u, v, e⟩ := bez a b
  rw [show gcd a b = 1 from h] at e
  have : p = p * u * a + v * (p * b) := by
    have h1 : p * 1 = p * (u * a + v * b) := by rw [← e]
    rw [mul_one] at h1
    rw [mul_add] at h1
    calc p = _ := h1
      _ = _ := by ac_rfl
  rw [this]
  exact dvd_add (dvd_mul _ (dvd_refl a)) (dvd_mul _ k)
/-- Two reduced fractions of one value are equal, if their denominators begin with 1. -/
theorem cop_frac {a b a' b' : Pl α} (h : Cop a b) (k : Cop a' b') (ha : a.a 0 = 1) (ha' : a'.a 0 = 1) (e : a' * b = a * b') : a = a' ∧ b = b' := by
  have hz : a ≠ 0 := ne_of_at (i := 0) (by rw [ha]; exact Fd.one_ne)
  have d1 : Dvd a a' := cop_dvd h ⟨b', by rw [e, mul_comm]⟩
  have d2 : Dvd a' a := cop_dvd k ⟨b, by rw [← e, mul_comm]⟩
  have hz' : a' ≠ 0 := ne_of_at (i := 0) (by rw [ha']; exact Fd.one_ne)
  have l1 := dvd_ln d1 hz'
  have l2 := dvd_ln d2 hz
  obtain ⟨y, hy⟩ := d1
  have hy0 : y ≠ 0 := fun g => hz' (by rw [hy, g, zero_mul])
  have l3 := ln_mul hy0 hz
  rw [← hy] at l3
  have h4 := of_ln_one (p := y) (by omega)
  have h5 : a'.a 0 = y.a 0 * a.a 0 := by rw [hy, h4, c_mul_at, c_at, if_pos rfl]
  rw [ha, ha', mul_one] at h5
  have h6 : a = a' := by rw [hy, h4, ← h5, c_one, one_mul]
  subst h6
  exact ⟨rfl, mul_left_cancel hz e⟩

/-! ### Values -/
noncomputable def ev (p : Pl α) (y : α) : α := PS.ev p.ln p.a y
theorem ev_of {p : Pl α} {n : Nat} (h : dl p.a n) (y : α) : PS.ev n p.a y = ev p y := PS.ev_eq y h p.ln_dl
theorem ev_add (p q : Pl α) (y : α) : ev (p + q) y = ev p y + ev q y := by
  obtain ⟨n, h1, h2⟩ := two p.h q.h
  rw [← ev_of (n := n) (dl_add h1 h2), ← ev_of h1, ← ev_of h2]
  exact PS.ev_add _ _ _ _
theorem ev_sub (p q : Pl α) (y : α) : ev (p - q) y = ev p y - ev q y := by
  obtain ⟨n, h1, h2⟩ := two p.h q.h
  rw [← ev_of (n := n) (dl_sub h1 h2), ← ev_of h1, ← ev_of h2]
  exact PS.ev_sub _ _ _ _
theorem ev_neg (p : Pl α) (y : α) : ev (-p) y = -ev p y := by
  obtain ⟨n, h1⟩ := p.h
  rw [← ev_of (n := n) (dl_neg h1), ← ev_of h1]
  exact PS.ev_neg _ _ _
theorem ev_mul (p q : Pl α) (y : α) : ev (p * q) y = ev p y * ev q y := by
  obtain ⟨n, h1, h2⟩ := two p.h q.h
  rw [← ev_of (n := n + n) (dl_mono (dl_mul h1 h2) (by omega)), ← ev_of h1, ← ev_of h2]
  exact PS.ev_mul h1 h2 (by omega) _
theorem ev_zero (y : α) : ev (0 : Pl α) y = 0 := PS.ev_zero _ _
theorem ev_c (z y : α) : ev (c z) y = z := by rw [← ev_of (n := 1) (dl_C z)]; exact PS.ev_C (by omega) _ _
theorem ev_one (y : α) : ev (1 : Pl α) y = 1 := ev_c 1 y
theorem ev_x (n : Nat) (y : α) : ev (x n) y = pw y n := by rw [← ev_of (dl_X n)]; exact PS.ev_X (by omega) _
theorem ev_sm (n : Nat) (f : Nat → Pl α) (y : α) : ev (sm n f) y = sm n (fun i => ev (f i) y) := by
  induction n with
  | zero => exact ev_zero y
  | succ n ih => rw [sm_succ, ev_add, ih]; rfl
theorem ev_pw (p : Pl α) (n : Nat) (y : α) : ev (pw p n) y = pw (ev p y) n := by
  induction n with
  | zero => exact ev_one y
  | succ n ih => rw [pw_succ, ev_mul, ih]; rfl
/-- The linear factor of a root. -/
def lin (y : α) : Pl α := x 1 - c y
theorem lin_dl (y : α) : dl (lin y).a (1 + 1) := dl_sub (dl_X 1) (dl_mono (dl_C y) (by omega))
theorem lin_top (y : α) : (lin y).a 1 = 1 := by
  show (X 1 - C y : PS α) 1 = 1
  rw [sub_at, X_at, C_at, if_pos rfl, if_neg (by omega), sub_zero]
theorem ln_lin (y : α) : (lin y).ln = 2 := ln_eq (lin_dl y) (by rw [lin_top]; exact Fd.one_ne)
theorem lin_ne (y : α) : lin y ≠ 0 := fun e => by have := ln_lin y; rw [e, ln_zero] at this; omega
theorem ev_lin (y z : α) : ev (lin y) z = z - y := by unfold lin; rw [ev_sub, ev_x, ev_c, pw_one]
theorem rem_lin (p : Pl α) (y : α) : rem p (lin y) = c (ev p y) := by
  have h1 := rem_lt p (lin_ne y)
  rw [ln_lin] at h1
  have h2 := of_ln_one (p := rem p (lin y)) (by omega)
  have h3 := congrArg (fun q => ev q y) (div_eq p (lin y))
  simp only [ev_add, ev_mul, ev_lin, sub_self, mul_zero, zero_add] at h3
  rw [h2, ev_c] at h3
  rw [h2, h3]
theorem root_dvd {p : Pl α} {y : α} : ev p y = 0 ↔ Dvd (lin y) p := by
  rw [← rem_zero (lin_ne y), rem_lin]
  constructor
  · intro h; rw [h, c_zero]
  · intro h
    have := congrArg (fun q => ev q y) h
    simpa only [ev_c, ev_zero] using this
theorem roots_le {p : Pl α} {l : List α} (h : p ≠ 0) (hl : l.Nodup) (hr : ∀ y ∈ l, ev p y = 0) : l.length < p.ln := PS.roots_le p.ln_dl (fun e => h (ext e)) hl hr
/-- A polynomial that is 0 at more elements than its length allows is 0. -/
theorem eq_zero_of_roots {p : Pl α} {l : List α} (hl : l.Nodup) (hr : ∀ y ∈ l, ev p y = 0) (hn : p.ln ≤ l.length) : p = 0 := by
  by_cases h : p = 0
  · exact h
  · have := roots_le h hl hr
    omega
end Pl
end Cw
namespace Cw
open Rg Fd PS

/-- n times a. -/
def nsm {α : Type} [Rg α] (n : Nat) (a : α) : α := sm n (fun _ => a)
theorem nsm_zero {α : Type} [Rg α] (a : α) : nsm 0 a = 0 := rfl
theorem nsm_succ {α : Type} [Rg α] (n : Nat) (a : α) : nsm (n + 1) a = nsm n a + a := rfl
theorem nsm_add {α : Type} [Rg α] (n : Nat) (a b : α) : nsm n (a + b) = nsm n a + nsm n b := sm_add n _ _
theorem nsm_mul {α : Type} [Rg α] (n : Nat) (a b : α) : nsm n (a * b) = a * nsm n b := (mul_sm a n _).symm
theorem nsm_mul' {α : Type} [Rg α] (n : Nat) (a : α) : nsm n a = nsm n 1 * a := by rw [mul_comm, ← nsm_mul, mul_one]
theorem nsm_nil {α : Type} [Rg α] (n : Nat) : nsm n (0 : α) = 0 := sm_eq_zero fun _ _ => rfl
theorem nsm_plus {α : Type} [Rg α] (m n : Nat) (a : α) : nsm (m + n) a = nsm m a + nsm n a := sm_split m n _
theorem nsm_nsm {α : Type} [Rg α] (m n : Nat) (a : α) : nsm (m * n) a = nsm m (nsm n a) := by
  induction m with
  | zero => rw [Nat.zero_mul, nsm_zero, nsm_zero]
  | succ m ih => rw [Nat.succ_mul, nsm_plus, ih, nsm_succ]
theorem nsm_mod {α : Type} [Rg α] {p : Nat} (h : nsm p (1 : α) = 0) (n : Nat) (a : α) : nsm (n % p) a = nsm n a := by
  have h1 : nsm n a = nsm (p * (n / p) + n % p) a := by rw [Nat.div_add_mod]
  rw [h1, nsm_plus, Nat.mul_comm, nsm_nsm, nsm_mul' p a, h, zero_mul, nsm_nil, zero_add]

namespace Pl
variable {α : Type} [Fd α]

/-! ### The derivative -/
def der (p : Pl α) : Pl α := ⟨⟨fun i => nsm (i + 1) (p.a (i + 1))⟩, let ⟨n, h⟩ := p.h; ⟨n, fun i hi => by show nsm (i + 1) (p.a (i + 1)) = 0; rw [h (i + 1) (by omega), nsm_nil]⟩⟩
theorem der_at (p : Pl α) (i : Nat) : (der p).a i = nsm (i + 1) (p.a (i + 1)) := rfl
theorem der_ln (p : Pl α) : (der p).ln ≤ p.ln - 1 := ln_le.2 fun i hi => by rw [der_at, p.ln_dl (i + 1) (by omega), nsm_nil]
theorem der_add (p q : Pl α) : der (p + q) = der p + der q := ext (PS.ext fun i => by
  show nsm (i + 1) (p.a (i + 1) + q.a (i + 1)) = nsm (i + 1) (p.a (i + 1)) + nsm (i + 1) (q.a (i + 1))
  rw [nsm_add])
theorem der_cmul (y : α) (p : Pl α) : der (c y * p) = c y * der p := ext (PS.ext fun i => by rw [der_at, c_mul_at, c_mul_at, der_at, nsm_mul])
theorem der_c (y : α) : der (c y) = 0 := ext (PS.ext fun i => by rw [der_at, c_at, if_neg (by omega), nsm_nil]; rfl)
theorem der_one : der (1 : Pl α) = 0 := der_c 1
theorem der_xmul (p : Pl α) : der (x 1 * p) = p + x 1 * der p := ext (PS.ext fun i => by
  show _ = p.a i + (x 1 * der p).a i
  rw [der_at, x_mul_at, x_mul_at, if_neg (by omega), Nat.add_sub_cancel, nsm_succ, add_comm]
  congr 1
  cases i with
  | zero => rw [if_pos (by omega), nsm_zero]
  | succ i => rw [if_neg (by omega), Nat.add_sub_cancel, der_at])
/-- A polynomial less its constant, divided by x. -/
def tl (p : Pl α) : Pl α := ⟨⟨fun i => p.a (i + 1)⟩, let ⟨n, h⟩ := p.h; ⟨n, fun i hi => h (i + 1) (by omega)⟩⟩
theorem tl_eq (p : Pl α) : p = c (p.a 0) + x 1 * tl p := ext (PS.ext fun i => by
  show _ = (c (p.a 0)).a i + (x 1 * tl p).a i
  rw [c_at, x_mul_at]
  cases i with
  | zero => rw [if_pos rfl, if_pos (by omega), add_zero]
  | succ i => rw [if_neg (by omega), if_neg (by omega), zero_add]; rfl)
theorem tl_ln (p : Pl α) : (tl p).ln ≤ p.ln - 1 := ln_le.2 fun i hi => p.ln_dl (i + 1) (by omega)
theorem der_mul : ∀ (n : Nat) (p q : Pl α), p.ln ≤ n → der (p * q) = der p * q + p * der q
  | 0, p, q, h => by
    have hp : p = 0 := ln_eq_zero.1 (by omega)
    subst hp
    have : der (0 : Pl α) = 0 := by rw [← c_zero, der_c, c_zero]
    rw [zero_mul, this, zero_mul, zero_mul, add_zero]
  | n + 1, p, q, h => by
    have ih := der_mul n (tl p) q (by have := tl_ln p; omega)
    have e := tl_eq p
    generalize hc : p.a 0 = a at e
    generalize hs : tl p = s at e ih
    rw [e, add_mul, der_add, der_add, mul_assoc, der_cmul, der_xmul, der_xmul, ih, der_c, zero_add, mul_add, add_mul, add_mul, mul_assoc, mul_assoc]
    rw [show x 1 * (s * der q) = s * (x 1 * der q) by ac_rfl]
    generalize c a * der q = x1
    generalize s * q = x2
    generalize x 1 * (der s * q) = x3
    generalize s * (x 1 * der q) = x4
    ac_rfl

/-! ### Composition -/
noncomputable def cmp (p q : Pl α) : Pl α := sm p.ln (fun i => c (p.a i) * pw q i)
theorem cmp_of {p : Pl α} {n : Nat} (h : p.ln ≤ n) (q : Pl α) : sm n (fun i => c (p.a i) * pw q i) = cmp p q := sm_short h fun i hi _ => by rw [p.ln_dl i hi, c_zero, zero_mul]
theorem ev_cmp (p q : Pl α) (y : α) : ev (cmp p q) y = ev p (ev q y) := by
  unfold cmp
  rw [ev_sm]
  unfold ev
  show _ = sm p.ln _
  refine sm_congr fun i _ => ?_
  have h := ev_mul (c (p.a i)) (pw q i) y
  rw [ev_c, ev_pw] at h
  exact h
/-- The coefficients from number k on, by Horner's rule. -/
noncomputable def hor (p q : Pl α) (n : Nat) : Nat → Pl α
  | 0 => 0
  | k + 1 => hor p q n k * q + c (p.a (n - 1 - k))
theorem hor_eq (p q : Pl α) (n : Nat) : ∀ k, k ≤ n → hor p q n k = sm k (fun i => c (p.a (n - k + i)) * pw q i)
  | 0, _ => rfl
  | k + 1, h => by
    rw [hor, hor_eq p q n k (by omega), sm_first, pw_zero, mul_one, Nat.add_zero, sm_mul, add_comm, show n - (k + 1) = n - 1 - k by omega]
    congr 1
    refine sm_congr fun i _ => ?_
    rw [mul_assoc, ← pw_succ, show n - 1 - k + (i + 1) = n - k + i by omega]
theorem hor_end {p : Pl α} {n : Nat} (h : p.ln ≤ n) (q : Pl α) : hor p q n n = cmp p q := by
  rw [hor_eq p q n n (Nat.le_refl _), Nat.sub_self]
  rw [← cmp_of h q]
  exact sm_congr fun i _ => by rw [Nat.zero_add]
theorem ln_pw_le (q : Pl α) : ∀ k, (pw q k).ln ≤ k * (q.ln - 1) + 1
  | 0 => by rw [pw_zero, ln_one]; omega
  | k + 1 => by
    have h1 := ln_mul_le (pw q k) q
    have h2 := ln_pw_le q k
    rw [pw_succ, Nat.succ_mul]
    rcases Nat.eq_zero_or_pos q.ln with e | e
    · rw [ln_eq_zero.1 e, mul_zero, ln_zero]; omega
    · omega

/-! ### Reversal -/
def rv (n : Nat) (p : Pl α) : Pl α := ⟨⟨fun i => if i ≤ n then p.a (n - i) else 0⟩, n + 1, fun i hi => by show (if i ≤ n then p.a (n - i) else 0) = 0; rw [if_neg (by omega)]⟩
theorem rv_at (n : Nat) (p : Pl α) (i : Nat) : (rv n p).a i = if i ≤ n then p.a (n - i) else 0 := rfl
theorem rv_ln (n : Nat) (p : Pl α) : (rv n p).ln ≤ n + 1 := ln_le.2 (fun i hi => by rw [rv_at, if_neg (by omega)])
theorem rv_rv {n : Nat} {p : Pl α} (h : p.ln ≤ n + 1) : rv n (rv n p) = p := ext (PS.ext fun i => by
  rw [rv_at]
  by_cases hi : i ≤ n
  · rw [if_pos hi, rv_at, if_pos (by omega), show n - (n - i) = i by omega]
  · rw [if_neg hi, p.ln_dl i (by omega)])

/-! ### Products of linear factors -/
noncomputable def prl : List α → Pl α
  | [] => 1
  | y :: l => prl l * lin y
noncomputable def prf (f : Nat → α) : Nat → Pl α
  | 0 => 1
  | k + 1 => prf f k * lin (f k)
theorem ln_prf (f : Nat → α) : ∀ k, (prf f k).ln = k + 1
  | 0 => ln_one
  | k + 1 => by
    have h := ln_prf f k
    have h0 : prf f k ≠ 0 := fun e => by rw [e, ln_zero] at h; omega
    have := ln_mul h0 (lin_ne (f k))
    rw [ln_lin] at this
    show (prf f k * lin (f k)).ln = _
    omega
theorem prf_ne (f : Nat → α) (k : Nat) : prf f k ≠ 0 := fun e => by have h := ln_prf f k; rw [e, ln_zero] at h; omega
theorem ev_prf (f : Nat → α) (y : α) : ∀ k, ev (prf f k) y = 0 ↔ ∃ i, i < k ∧ f i = y
  | 0 => by
    show ev 1 y = 0 ↔ _
    rw [ev_one]
    exact ⟨fun h => absurd h Fd.one_ne, fun ⟨i, hi, _⟩ => absurd hi (by omega)⟩
  | k + 1 => by
    show ev (prf f k * lin (f k)) y = 0 ↔ _
    rw [ev_mul, ev_lin]
    constructor
    · intro h
      rcases Fd.mul_eq_zero h with e | e
      · obtain ⟨i, hi, he⟩ := (ev_prf f y k).1 e
        exact ⟨i, by omega, he⟩
      · exact ⟨k, by omega, (sub_eq_zero e).symm⟩
    · rintro ⟨i, hi, he⟩
      by_cases e : i = k
      · subst e; rw [he, sub_self, mul_zero]
      · rw [(ev_prf f y k).2 ⟨i, by omega, he⟩, zero_mul]
theorem prf_congr {f g : Nat → α} : ∀ {k : Nat}, (∀ i, i < k → f i = g i) → prf f k = prf g k
  | 0, _ => rfl
  | k + 1, h => by
    show prf f k * lin (f k) = prf g k * lin (g k)
    rw [prf_congr (k := k) (fun i hi => h i (by omega)), h k (by omega)]
theorem prf_dvd {f : Nat → α} {p : Pl α} (hf : ∀ i j, i < j → f i ≠ f j) : ∀ k, (∀ i, i < k → ev p (f i) = 0) → Dvd (prf f k) p
  | 0, _ => ⟨p, (mul_one p).symm⟩
  | k + 1, h => by
    obtain ⟨q, hq⟩ := prf_dvd hf k (fun i hi => h i (by omega))
    have h1 := h k (by omega)
    rw [hq, ev_mul] at h1
    rcases Fd.mul_eq_zero h1 with e | e
    · obtain ⟨r, hr⟩ := root_dvd.1 e
      exact ⟨r, by rw [hq, hr]; show r * lin (f k) * prf f k = r * (prf f k * lin (f k)); ac_rfl⟩
    · obtain ⟨i, hi, he⟩ := (ev_prf f (f k) k).1 e
      exact absurd he (hf i k hi)
theorem prf_dvd' {f : Nat → α} {p : Pl α} : ∀ k, (∀ i j, i < j → j < k → f i ≠ f j) → (∀ i, i < k → ev p (f i) = 0) → Dvd (prf f k) p
  | 0, _, _ => ⟨p, (mul_one p).symm⟩
  | k + 1, hf, h => by
    obtain ⟨q, hq⟩ := prf_dvd' k (fun i j h1 h2 => hf i j h1 (by omega)) (fun i hi => h i (by omega))
    have h1 := h k (by omega)
    rw [hq, ev_mul] at h1
    rcases Fd.mul_eq_zero h1 with e | e
    · obtain ⟨r, hr⟩ := root_dvd.1 e
      exact ⟨r, by rw [hq, hr]; show r * lin (f k) * prf f k = r * (prf f k * lin (f k)); ac_rfl⟩
    · obtain ⟨i, hi, he⟩ := (ev_prf f (f k) k).1 e
      exact absurd he (hf i k hi (by omega))

/-! ### Powers modulo a polynomial -/
def Cg (m a b : Pl α) : Prop := Dvd m (a - b)
theorem cg_refl (m a : Pl α) : Cg m a a := by unfold Cg; rw [sub_self]; exact dvd_zero _
theorem cg_symm {m a b : Pl α} (h : Cg m a b) : Cg m b a := by unfold Cg; rw [← neg_sub]; exact dvd_neg h
theorem cg_trans {m a b c : Pl α} (h : Cg m a b) (k : Cg m b c) : Cg m a c := by
  have := dvd_add h k
  rwa [show a - b + (b - c) = a - c by simp only [sub_def]; rw [show a + -b + (b + -c) = a + -c + (b + -b) by ac_rfl, add_neg, add_zero]] at this
theorem cg_add {m a b c d : Pl α} (h : Cg m a b) (k : Cg m c d) : Cg m (a + c) (b + d) := by
  have := dvd_add h k
  rwa [show a - b + (c - d) = a + c - (b + d) by simp only [sub_def, neg_add_rev]; ac_rfl] at this
theorem cg_mul {m a b c d : Pl α} (h : Cg m a b) (k : Cg m c d) : Cg m (a * c) (b * d) := by
  have h1 := dvd_mul' c h
  have h2 := dvd_mul b k
  have := dvd_add h1 h2
  rwa [sub_mul, mul_sub, show a * c - b * c + (b * c - b * d) = a * c - b * d by
    simp only [sub_def]; rw [show a * c + -(b * c) + (b * c + -(b * d)) = a * c + -(b * d) + (b * c + -(b * c)) by ac_rfl, add_neg, add_zero]] at this
theorem cg_neg {m a b : Pl α} (h : Cg m a b) : Cg m (-a) (-b) := by
  have := dvd_neg h
  rwa [show -(a - b) = -a - -b by simp only [sub_def, neg_add_rev]] at this
theorem cg_sub {m a b c d : Pl α} (h : Cg m a b) (k : Cg m c d) : Cg m (a - c) (b - d) := by rw [sub_def, sub_def]; exact cg_add h (cg_neg k)
theorem cg_rem (a m : Pl α) : Cg m a (rem a m) := ⟨quo a m, sub_eq (div_eq a m)⟩
theorem cg_zero {m a : Pl α} : Cg m a 0 ↔ Dvd m a := by unfold Cg; rw [sub_zero]
theorem rem_cg {m a b : Pl α} (hm : m ≠ 0) : Cg m a b ↔ rem a m = rem b m := by
  constructor
  · intro h
    obtain ⟨k, hk⟩ := cg_trans h (cg_rem b m)
    exact rem_of (q := k) (by rw [← hk, sub_add_cancel]) (rem_lt b hm)
  · intro h
    refine cg_trans (cg_rem a m) ?_
    rw [h]
    exact cg_symm (cg_rem b m)
theorem rem_self_of {m a : Pl α} (h : a.ln < m.ln) : rem a m = a := rem_of (q := 0) (by rw [zero_mul, zero_add]) h
theorem rem_rem {m : Pl α} (hm : m ≠ 0) (a : Pl α) : rem (rem a m) m = rem a m := rem_self_of (rem_lt a hm)
theorem rem_mul_rem {m : Pl α} (hm : m ≠ 0) (a b : Pl α) : rem (rem a m * rem b m) m = rem (a * b) m := ((rem_cg hm).1 (cg_mul (cg_rem a m) (cg_rem b m))).symm
theorem cg_pw {m a b : Pl α} (h : Cg m a b) : ∀ n, Cg m (pw a n) (pw b n)
  | 0 => cg_refl _ _
  | n + 1 => cg_mul (cg_pw h n) h
/-- One step of repeated squaring. -/
theorem pow_odd {m o b : Pl α} (hm : m ≠ 0) {n : Nat} (h : n % 2 = 1) : rem (rem (o * b) m * pw (rem (b * b) m) (n / 2)) m = rem (o * pw b n) m := by
  refine (rem_cg hm).1 ?_
  have e : o * pw b n = o * b * pw (b * b) (n / 2) := by
    have h1 : n = n / 2 + n / 2 + 1 := by omega
    rw [congrArg (pw b) h1, pw_succ, pw_add, mul_pw]
    ac_rfl
  rw [e]
  exact cg_mul (cg_symm (cg_rem _ _)) (cg_pw (cg_symm (cg_rem _ _)) _)
theorem pow_even {m o b : Pl α} (hm : m ≠ 0) {n : Nat} (h : n % 2 = 0) : rem (o * pw (rem (b * b) m) (n / 2)) m = rem (o * pw b n) m := by
  refine (rem_cg hm).1 ?_
  have e : o * pw b n = o * pw (b * b) (n / 2) := by
    have h1 : n = n / 2 + n / 2 := by omega
    rw [congrArg (pw b) h1, pw_add, mul_pw]
  rw [e]
  exact cg_mul (cg_refl _ _) (cg_pw (cg_symm (cg_rem _ _)) _)
end Pl
end Cw
