/- Power series and polynomials over a commutative ring or a field: plain algebra, no program in sight. No conditions. -/
import Derived.Test.YtnmidgcmlkofjaaMa
namespace Cw
open Rg

structure PS (α : Type) where
  co : Nat → α

namespace PS
/-- The coefficient. -/
instance {α : Type} : CoeFun (PS α) (fun _ => Nat → α) := ⟨PS.co⟩
theorem ext {α : Type} {a b : PS α} (h : ∀ i, a i = b i) : a = b := by cases a; cases b; exact congrArg PS.mk (funext h)
section ring
variable {α : Type} [Rg α]


def C (c : α) : PS α := ⟨fun i => if i = 0 then c else 0⟩
def X (n : Nat) : PS α := ⟨fun i => if i = n then 1 else 0⟩

instance : Zero (PS α) := ⟨⟨fun _ => 0⟩⟩
instance : One (PS α) := ⟨C 1⟩
instance : Add (PS α) := ⟨fun a b => ⟨fun i => a i + b i⟩⟩
instance : Neg (PS α) := ⟨fun a => ⟨fun i => -a i⟩⟩
instance : Sub (PS α) := ⟨fun a b => ⟨fun i => a i - b i⟩⟩
instance : Mul (PS α) := ⟨fun a b => ⟨fun n => sm (n + 1) (fun i => a i * b (n - i))⟩⟩

theorem zero_at (i : Nat) : (0 : PS α) i = 0 := rfl
theorem one_at (i : Nat) : (1 : PS α) i = if i = 0 then 1 else 0 := rfl
theorem add_at (a b : PS α) (i : Nat) : (a + b) i = a i + b i := rfl
theorem neg_at (a : PS α) (i : Nat) : (-a) i = -a i := rfl
theorem sub_at (a b : PS α) (i : Nat) : (a - b) i = a i - b i := rfl
theorem mul_at (a b : PS α) (n : Nat) : (a * b) n = sm (n + 1) (fun i => a i * b (n - i)) := rfl
theorem C_at (c : α) (i : Nat) : (C c : PS α) i = if i = 0 then c else 0 := rfl
theorem X_at (n i : Nat) : (X n : PS α) i = if i = n then 1 else 0 := rfl

theorem C_mul_at (c : α) (a : PS α) (n : Nat) : (C c * a : PS α) n = c * a n := by
  rw [mul_at, sm_one (k := 0) (by omega) (fun i _ h => by rw [C_at, if_neg h, zero_mul]), C_at, if_pos rfl, Nat.sub_zero]
theorem X_mul_at (k : Nat) (a : PS α) (n : Nat) : (X k * a : PS α) n = if n < k then 0 else a (n - k) := by
  rw [mul_at]
  split
  · exact sm_eq_zero fun i hi => by rw [X_at, if_neg (by omega), zero_mul]
  · rw [sm_one (k := k) (by omega) (fun i _ h => by rw [X_at, if_neg h, zero_mul]), X_at, if_pos rfl, one_mul]

theorem mul_comm' (a b : PS α) : a * b = b * a := ext fun n => by
  rw [mul_at, mul_at, sm_rev]
  exact sm_congr fun i hi => by rw [mul_comm, show n + 1 - 1 - i = n - i by omega, show n - (n - i) = i by omega]
theorem mul_assoc' (a b c : PS α) : a * b * c = a * (b * c) := ext fun n => by
  rw [mul_at, mul_at]
  have e1 : sm (n + 1) (fun k => (a * b) k * c (n - k)) = sm (n + 1) (fun k => sm (k + 1) (fun i => (fun i j => a i * b j * c (n - i - j)) i (k - i))) :=
    sm_congr fun k hk => by
      rw [mul_at, sm_mul]
      exact sm_congr fun i hi => by simp only []; rw [show n - i - (k - i) = n - k by omega]
  rw [e1, sm_tri n (fun i j => a i * b j * c (n - i - j))]
  exact sm_congr fun i hi => by
    rw [mul_at, mul_sm]
    exact sm_congr fun j hj => by rw [mul_assoc]

instance : Rg (PS α) where
  add_assoc a b c := ext fun i => add_assoc _ _ _
  add_comm a b := ext fun i => add_comm _ _
  add_zero a := ext fun i => add_zero _
  add_neg a := ext fun i => add_neg _
  sub_def a b := ext fun i => sub_def _ _
  mul_assoc := mul_assoc'
  mul_comm := mul_comm'
  mul_one a := by rw [mul_comm']; exact ext fun i => by
                    show (C 1 * a : PS α) i = a i
                    rw [C_mul_at, one_mul]
  mul_add a b c := ext fun n => by
    rw [add_at, mul_at, mul_at, mul_at, ← sm_add]
    exact sm_congr fun i _ => mul_add _ _ _

theorem sm_at (n : Nat) (f : Nat → PS α) (i : Nat) : (sm n f) i = sm n (fun j => f j i) := by
  induction n with
  | zero => rfl
  | succ n ih => rw [sm_succ, add_at, ih, sm_succ]

theorem C_zero : (C 0 : PS α) = 0 := ext fun i => by rw [C_at, zero_at]; split <;> rfl
theorem C_one : (C 1 : PS α) = 1 := rfl
theorem C_add (a b : α) : (C (a + b) : PS α) = C a + C b := ext fun i => by rw [add_at, C_at, C_at, C_at]; split <;> simp [add_zero]
theorem C_mul (a b : α) : (C (a * b) : PS α) = C a * C b := ext fun i => by rw [C_mul_at, C_at, C_at]; split <;> simp [mul_zero]
theorem C_neg (a : α) : (C (-a) : PS α) = -C a := ext fun i => by rw [neg_at, C_at, C_at]; split <;> simp [neg_zero]
theorem C_sub (a b : α) : (C (a - b) : PS α) = C a - C b := by rw [sub_def, C_add, C_neg, ← sub_def]
theorem X_zero : (X 0 : PS α) = 1 := rfl
theorem X_add (m n : Nat) : (X (m + n) : PS α) = X m * X n := ext fun i => by
  rw [X_mul_at, X_at, X_at]
  by_cases h : i < m
  · rw [if_pos h, if_neg (by omega)]
  · rw [if_neg h]
    by_cases h2 : i = m + n
    · rw [if_pos h2, if_pos (by omega)]
    · rw [if_neg h2, if_neg (by omega)]

/-- The degree is less than n. -/
def dl (a : PS α) (n : Nat) : Prop := ∀ i, n ≤ i → a i = 0

theorem dl_mono {a : PS α} {m n : Nat} (h : dl a m) (hm : m ≤ n) : dl a n := fun i hi => h i (by omega)
theorem dl_zero (n : Nat) : dl (0 : PS α) n := fun _ _ => rfl
theorem dl_eq_zero {a : PS α} (h : dl a 0) : a = 0 := ext fun i => h i (by omega)
theorem dl_add {a b : PS α} {n : Nat} (ha : dl a n) (hb : dl b n) : dl (a + b) n := fun i hi => by rw [add_at, ha i hi, hb i hi, add_zero]
theorem dl_neg {a : PS α} {n : Nat} (ha : dl a n) : dl (-a) n := fun i hi => by rw [neg_at, ha i hi, neg_zero]
theorem dl_sub {a b : PS α} {n : Nat} (ha : dl a n) (hb : dl b n) : dl (a - b) n := by rw [sub_def]; exact dl_add ha (dl_neg hb)
theorem dl_C (c : α) : dl (C c) 1 := fun i hi => by rw [C_at, if_neg (by omega)]
theorem dl_one : dl (1 : PS α) 1 := dl_C 1
theorem dl_X (n : Nat) : dl (X n : PS α) (n + 1) := fun i hi => by rw [X_at, if_neg (by omega)]
theorem dl_mul {a b : PS α} {m n : Nat} (ha : dl a m) (hb : dl b n) : dl (a * b) (m + n - 1) := fun i hi => by
  rw [mul_at]
  refine sm_eq_zero fun j hj => ?_
  by_cases h : m ≤ j
  · rw [ha j h, zero_mul]
  · by_cases h2 : n ≤ i - j
    · rw [hb _ h2, mul_zero]
    · omega
theorem dl_mul' {a b : PS α} {m n k : Nat} (ha : dl a m) (hb : dl b n) (hk : m + n ≤ k + 1) : dl (a * b) k := dl_mono (dl_mul ha hb) (by omega)
theorem dl_Cmul {a : PS α} {n : Nat} (c : α) (ha : dl a n) : dl (C c * a) n := fun i hi => by rw [C_mul_at, ha i hi, mul_zero]
theorem dl_Xmul {a : PS α} {n : Nat} (k : Nat) (ha : dl a n) : dl (X k * a) (k + n) := fun i hi => by
  rw [X_mul_at, if_neg (by omega), ha _ (by omega)]
theorem dl_sm {n k : Nat} {f : Nat → PS α} (h : ∀ i, i < n → dl (f i) k) : dl (sm n f) k := by
  induction n with
  | zero => exact dl_zero k
  | succ n ih => rw [sm_succ]; exact dl_add (ih fun i hi => h i (by omega)) (h n (by omega))
/-- The product of the top coefficients. -/
theorem mul_top {a b : PS α} {m n : Nat} (ha : dl a (m + 1)) (hb : dl b (n + 1)) : (a * b) (m + n) = a m * b n := by
  rw [mul_at, sm_one (k := m) (by omega) (fun i hi h => ?_), show m + n - m = n by omega]
  by_cases h2 : m + 1 ≤ i
  · rw [ha i h2, zero_mul]
  · rw [hb _ (by omega), mul_zero]
/-- One degree less, where the top coefficient is 0. -/
theorem dl_pred {a : PS α} {n : Nat} (h : dl a (n + 1)) (h0 : a n = 0) : dl a n := fun i hi => by
  by_cases e : i = n
  · rw [e, h0]
  · exact h i (by omega)
/-- A power series with a bound on its degree is the sum of its terms. -/
theorem sum_X {a : PS α} {n : Nat} (h : dl a n) : a = sm n (fun i => C (a i) * X i) := ext fun k => by
  rw [sm_at]
  by_cases hk : k < n
  · rw [sm_one hk (fun i _ hi => by rw [C_mul_at, X_at, if_neg (by omega), mul_zero]), C_mul_at, X_at, if_pos rfl, mul_one]
  · rw [h k (by omega), sm_eq_zero fun i hi => by rw [C_mul_at, X_at, if_neg (by omega), mul_zero]]

/-- The value at x of a polynomial whose degree is less than n. -/
def ev (n : Nat) (a : PS α) (x : α) : α := sm n (fun i => a i * pw x i)
theorem ev_eq {m n : Nat} {a : PS α} (x : α) (hm : dl a m) (hn : dl a n) : ev m a x = ev n a x := by
  have key : ∀ {m n}, m ≤ n → dl a m → ev n a x = ev m a x := fun h hm => sm_short h fun i hi _ => by rw [hm i hi, zero_mul]
  rcases Nat.le_total m n with h | h
  · exact (key h hm).symm
  · exact key h hn
theorem ev_add (n : Nat) (a b : PS α) (x : α) : ev n (a + b) x = ev n a x + ev n b x := by
  unfold ev; rw [← sm_add]; exact sm_congr fun i _ => by rw [add_at, add_mul]
theorem ev_neg (n : Nat) (a : PS α) (x : α) : ev n (-a) x = -ev n a x := by
  unfold ev; rw [← sm_neg]; exact sm_congr fun i _ => by rw [neg_at, neg_mul]
theorem ev_sub (n : Nat) (a b : PS α) (x : α) : ev n (a - b) x = ev n a x - ev n b x := by
  rw [sub_def, ev_add, ev_neg, ← sub_def]
theorem ev_zero (n : Nat) (x : α) : ev n (0 : PS α) x = 0 := sm_eq_zero fun i _ => by rw [zero_at, zero_mul]
theorem ev_Cmul (n : Nat) (c : α) (a : PS α) (x : α) : ev n (C c * a) x = c * ev n a x := by
  unfold ev; rw [mul_sm]; exact sm_congr fun i _ => by rw [C_mul_at, mul_assoc]
theorem ev_C {n : Nat} (hn : 0 < n) (c x : α) : ev n (C c) x = c := by
  unfold ev; rw [sm_one hn (fun i _ h => by rw [C_at, if_neg h, zero_mul]), C_at, if_pos rfl, pw_zero, mul_one]
theorem ev_one {n : Nat} (hn : 0 < n) (x : α) : ev n (1 : PS α) x = 1 := ev_C hn 1 x
theorem ev_Xmul (k n : Nat) (a : PS α) (x : α) : ev (k + n) (X k * a) x = pw x k * ev n a x := by
  unfold ev
  rw [sm_split, sm_eq_zero (n := k) (fun i hi => by rw [X_mul_at, if_pos hi, zero_mul]), zero_add, mul_sm]
  exact sm_congr fun i _ => by rw [X_mul_at, if_neg (by omega), show k + i - k = i by omega, pw_add]; ac_rfl
theorem ev_X {k n : Nat} (hk : k < n) (x : α) : ev n (X k : PS α) x = pw x k := by
  unfold ev; rw [sm_one hk (fun i _ h => by rw [X_at, if_neg h, zero_mul]), X_at, if_pos rfl, one_mul]
theorem ev_sm (n m : Nat) (f : Nat → PS α) (x : α) : ev n (sm m f) x = sm m (fun j => ev n (f j) x) := by
  induction m with
  | zero => exact ev_zero n x
  | succ m ih => rw [sm_succ, ev_add, ih, sm_succ]
theorem ev_mul {m n k : Nat} {a b : PS α} (ha : dl a m) (hb : dl b n) (hk : m + n ≤ k + 1) (x : α) : ev k (a * b) x = ev m a x * ev n b x := by
  have e : ev (m + n) (a * b) x = ev m a x * ev n b x := by
    have ea : a * b = sm m (fun i => C (a i) * (X i * b)) := by
      conv => lhs; rw [sum_X ha]
      rw [sm_mul]; exact sm_congr fun i _ => mul_assoc _ _ _
    rw [ea, ev_sm]
    unfold ev
    rw [sm_mul]
    refine sm_congr fun i hi => ?_
    have h1 := ev_Cmul (m + n) (a i) (X i * b) x
    have h2 := ev_Xmul i n b x
    have h3 : ev (m + n) (X i * b) x = ev (i + n) (X i * b) x := ev_eq x (dl_mono (dl_Xmul i hb) (by omega)) (dl_Xmul i hb)
    rw [show (sm (m + n) fun j => (C (a i) * (X i * b) : PS α) j * pw x j) = ev (m + n) (C (a i) * (X i * b)) x from rfl, h1, h3, h2]
    show _ = a i * pw x i * ev n b x
    ac_rfl
  rw [← e]
  exact ev_eq x (dl_mul' ha hb hk) (dl_mul' ha hb (by omega))

/-- a divides b, with a quotient that is a polynomial. -/
def Dv (a b : PS α) : Prop := ∃ q n, dl q n ∧ b = q * a
theorem Dv_zero (a : PS α) : Dv a 0 := ⟨0, 0, dl_zero 0, (zero_mul a).symm⟩
theorem Dv_refl (a : PS α) : Dv a a := ⟨1, 1, dl_one, (one_mul a).symm⟩
theorem Dv_mul {a b : PS α} (c : PS α) {n : Nat} (hc : dl c n) (h : Dv a b) : Dv a (c * b) := by
  obtain ⟨q, m, hq, rfl⟩ := h; exact ⟨c * q, _, dl_mul hc hq, (mul_assoc _ _ _).symm⟩
theorem Dv_add {a b c : PS α} (h : Dv a b) (k : Dv a c) : Dv a (b + c) := by
  obtain ⟨q, m, hq, rfl⟩ := h; obtain ⟨r, n, hr, rfl⟩ := k
  exact ⟨q + r, m + n, dl_add (dl_mono hq (by omega)) (dl_mono hr (by omega)), (add_mul _ _ _).symm⟩
theorem Dv_neg {a b : PS α} (h : Dv a b) : Dv a (-b) := by
  obtain ⟨q, m, hq, rfl⟩ := h; exact ⟨-q, m, dl_neg hq, (neg_mul _ _).symm⟩
theorem Dv_sub {a b c : PS α} (h : Dv a b) (k : Dv a c) : Dv a (b - c) := by rw [sub_def]; exact Dv_add h (Dv_neg k)
theorem Dv_trans {a b c : PS α} (h : Dv a b) (k : Dv b c) : Dv a c := by
  obtain ⟨q, m, hq, rfl⟩ := h; obtain ⟨r, n, hr, rfl⟩ := k
  exact ⟨r * q, _, dl_mul hr hq, (mul_assoc _ _ _).symm⟩
end ring

section field
open Fd
variable {α : Type} [Fd α]
/-- Division with remainder. -/
theorem div_ex {b : PS α} {d : Nat} (hb : dl b (d + 1)) (h0 : b d ≠ 0) : ∀ (n : Nat) (a : PS α), dl a n → ∃ q r, a = q * b + r ∧ dl r d ∧ dl q (n - d) := by
  intro n
  induction n with
  | zero => exact fun a ha => ⟨0, a, by rw [zero_mul, zero_add], dl_mono ha (by omega), dl_zero _⟩
  | succ n ih =>
    intro a ha
    by_cases hn : n + 1 ≤ d
    · exact ⟨0, a, by rw [zero_mul, zero_add], dl_mono ha hn, dl_zero _⟩
    · have hd : d ≤ n := by omega
      have hda : dl (a - C (a n * inv (b d)) * (X (n - d) * b)) n := by
        refine dl_pred (dl_sub ha (dl_Cmul _ (dl_mono (dl_Xmul (n - d) hb) (by omega)))) ?_
        rw [sub_at, C_mul_at, X_mul_at, if_neg (by omega), show n - (n - d) = d by omega, mul_assoc, inv_mul h0, mul_one, sub_self]
      obtain ⟨q, r, he, hr, hq⟩ := ih _ hda
      refine ⟨q + C (a n * inv (b d)) * X (n - d), r, ?_, hr, dl_add (dl_mono hq (by omega)) (dl_Cmul _ (dl_mono (dl_X _) (by omega)))⟩
      generalize C (a n * inv (b d)) = c at *
      have : a = (a - c * (X (n - d) * b)) + c * (X (n - d) * b) := (sub_add_cancel _ _).symm
      rw [this, he, add_mul]
      ac_rfl
/-- A product with a polynomial of degree d is of a degree below d only if it is 0. -/
theorem mul_low {b q : PS α} {d n : Nat} (hb : dl b (d + 1)) (h0 : b d ≠ 0) (hq : dl q n) (h : dl (q * b) d) : q = 0 := by
  induction n with
  | zero => exact dl_eq_zero hq
  | succ n ih =>
    refine ih (dl_pred hq ?_)
    have := mul_top hq hb
    rw [h (n + d) (by omega)] at this
    rcases mul_eq_zero this.symm with e | e
    · exact e
    · exact absurd e h0
theorem div_unique {b q r q' r' : PS α} {d n n' : Nat} (hb : dl b (d + 1)) (h0 : b d ≠ 0) (hq : dl q n) (hq' : dl q' n') (hr : dl r d) (hr' : dl r' d)
    (h : q * b + r = q' * b + r') : q = q' ∧ r = r' := by
  have e : (q - q') * b = r' - r := by
    have h1 : q * b + r - q' * b - r = r' - r := by rw [h]; rw [show q' * b + r' = r' + q' * b by ac_rfl, add_sub_cancel]
    rw [← h1, sub_mul]
    simp only [sub_def]
    have : q * b + r + -(q' * b) + -r = (q * b + -(q' * b)) + (r + -r) := by ac_rfl
    rw [this, add_neg, add_zero]
  have hz : q - q' = 0 := mul_low hb h0 (n := n + n') (dl_sub (dl_mono hq (by omega)) (dl_mono hq' (by omega))) (by rw [e]; exact dl_sub hr' hr)
  have hqq := sub_eq_zero hz
  subst hqq
  exact ⟨rfl, add_left_cancel h⟩
/-- A polynomial other than 0 has a degree. -/
theorem deg_ex {a : PS α} {n : Nat} (h : dl a n) (h0 : a ≠ 0) : ∃ d, d < n ∧ dl a (d + 1) ∧ a d ≠ 0 := by
  induction n with
  | zero => exact absurd (dl_eq_zero h) h0
  | succ n ih =>
    by_cases e : a n = 0
    · obtain ⟨d, hd, h1, h2⟩ := ih (dl_pred h e)
      exact ⟨d, by omega, h1, h2⟩
    · exact ⟨n, by omega, h, e⟩
theorem ps_mul_ne {a b : PS α} {m n : Nat} (ha : dl a m) (hb : dl b n) (ha0 : a ≠ 0) (hb0 : b ≠ 0) : a * b ≠ 0 := fun h => by
  obtain ⟨d, _, h1, h2⟩ := deg_ex ha ha0
  obtain ⟨e, _, h3, h4⟩ := deg_ex hb hb0
  have := mul_top h1 h3
  rw [h, zero_at] at this
  exact mul_ne h2 h4 this.symm
theorem ps_mul_cancel {a b c : PS α} {m n k : Nat} (ha : dl a m) (hb : dl b n) (hc : dl c k) (ha0 : a ≠ 0) (h : a * b = a * c) : b = c := by
  by_cases e : b - c = 0
  · exact sub_eq_zero e
  · refine absurd ?_ (ps_mul_ne ha (dl_sub (n := n + k) (dl_mono hb (by omega)) (dl_mono hc (by omega))) ha0 e)
    rw [mul_sub, h, sub_self]
/-- The factor theorem. -/
theorem root_factor {a : PS α} {n : Nat} {x : α} (ha : dl a (n + 1)) (h : ev (n + 1) a x = 0) : ∃ q, a = q * (X 1 - C x) ∧ dl q n := by
  have hb : dl (X 1 - C x : PS α) (1 + 1) := dl_sub (dl_X 1) (dl_mono (dl_C x) (by omega))
  have h1 : (X 1 - C x : PS α) 1 = 1 := by rw [sub_at, X_at, C_at, if_pos rfl, if_neg (by omega), sub_zero]
  obtain ⟨q, r, he, hr, hq⟩ := div_ex hb (by rw [h1]; exact one_ne) _ a ha
  refine ⟨q, ?_, dl_mono hq (by omega)⟩
  have hr0 : r 0 = 0 := by
    have e1 := ev_add (n + 2) (q * (X 1 - C x)) r x
    rw [← he, ev_mul (m := n) (n := 2) (k := n + 2) (dl_mono hq (by omega)) hb (by omega), ev_sub, ev_X (by omega), ev_C (by omega), pw_one, sub_self, mul_zero, zero_add,
      ev_eq x (dl_mono ha (by omega)) ha, h] at e1
    rw [e1]
    unfold ev
    rw [sm_one (k := 0) (by omega) (fun i _ hi => by rw [hr i (by omega), zero_mul]), pw_zero, mul_one]
  have : r = 0 := dl_eq_zero (dl_pred hr hr0)
  rw [this, add_zero] at he
  exact he
/-- A polynomial other than 0 has at most as many roots as its degree. -/
theorem roots_le {n : Nat} : ∀ {a : PS α} {l : List α}, dl a n → a ≠ 0 → l.Nodup → (∀ x ∈ l, ev n a x = 0) → l.length < n := by
  induction n with
  | zero => exact fun ha h0 => absurd (dl_eq_zero ha) h0
  | succ n ih =>
    intro a l ha h0 hl hr
    cases l with
    | nil => simp
    | cons x l =>
      obtain ⟨q, he, hq⟩ := root_factor ha (hr x (by simp))
      have hq0 : q ≠ 0 := fun e => h0 (by rw [he, e, zero_mul])
      have hl' := List.nodup_cons.1 hl
      refine Nat.succ_lt_succ (ih hq hq0 hl'.2 fun y hy => ?_)
      have h1 := hr y (by simp [hy])
      rw [he, ev_mul hq (n := 2) (dl_sub (dl_X 1) (dl_mono (dl_C x) (by omega))) (by omega), ev_sub, ev_X (by omega), ev_C (by omega), pw_one] at h1
      rcases mul_eq_zero h1 with e | e
      · exact e
      · exact absurd (sub_eq_zero e ▸ hy) hl'.1
end field
end PS
end Cw
