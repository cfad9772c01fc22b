/- Orders of elements in a finite field; the multiplicative group is cyclic: plain algebra, no program in sight. No conditions. -/
import Derived.Test.YtnmidgcmlkofjaaMd
namespace Cw
open Rg Fd PS

section order
variable {α : Type} [Rg α]

/-- The order of an element: the least positive exponent that gives 1. -/
def Ord (a : α) (n : Nat) : Prop := 1 ≤ n ∧ pw a n = 1 ∧ ∀ k, 1 ≤ k → k < n → pw a k ≠ 1
theorem ord_of {a : α} : ∀ n, 1 ≤ n → pw a n = 1 → ∃ k, k ≤ n ∧ Ord a k := by
  intro n
  induction n using Nat.strongRecOn with
  | ind n ih =>
    intro h1 h2
    by_cases h : ∃ k, 1 ≤ k ∧ k < n ∧ pw a k = 1
    · obtain ⟨k, k1, k2, k3⟩ := h
      obtain ⟨j, j1, j2⟩ := ih k k2 k1 k3
      exact ⟨j, by omega, j2⟩
    · exact ⟨n, Nat.le_refl _, h1, h2, fun k k1 k2 k3 => h ⟨k, k1, k2, k3⟩⟩
theorem pw_mod {a : α} {n : Nat} (h : pw a n = 1) (k : Nat) : pw a k = pw a (k % n) := by
  conv => lhs; rw [← Nat.div_add_mod k n]
  rw [pw_add, pw_mul, h, one_pw, one_mul]
theorem ord_dvd {a : α} {n : Nat} (h : Ord a n) {k : Nat} : pw a k = 1 ↔ n ∣ k := by
  constructor
  · intro e
    rw [pw_mod h.2.1] at e
    by_cases hz : k % n = 0
    · exact Nat.dvd_of_mod_eq_zero hz
    · exact absurd e (h.2.2 _ (by omega) (Nat.mod_lt _ h.1))
  · rintro ⟨c, rfl⟩
    rw [pw_mul, h.2.1, one_pw]
theorem ord_unique {a : α} {m n : Nat} (h : Ord a m) (k : Ord a n) : m = n := Nat.dvd_antisymm ((ord_dvd h).1 k.2.1) ((ord_dvd k).1 h.2.1)
theorem ord_one : Ord (1 : α) 1 := ⟨Nat.le_refl _, pw_one _, fun k h1 h2 => by omega⟩
/-- The order of a power whose exponent divides the order. -/
theorem ord_pw {a : α} {n d : Nat} (h : Ord a (d * n)) : Ord (pw a d) n := by
  have hn : 1 ≤ n := by rcases Nat.eq_zero_or_pos n with e | e
                        · have := h.1; rw [e] at this; omega
                        · exact e
  have hd : 1 ≤ d := by rcases Nat.eq_zero_or_pos d with e | e
                        · have := h.1; rw [e, Nat.zero_mul] at this; omega
                        · exact e
  refine ⟨hn, by rw [← pw_mul]; exact h.2.1, fun k k1 k2 e => ?_⟩
  rw [← pw_mul, ord_dvd h] at e
  have := Nat.le_of_dvd (Nat.mul_pos hd k1) e
  have := Nat.le_of_mul_le_mul_left this hd
  omega
/-- The order of a product, where the orders are coprime. -/
theorem ord_mul {a b : α} {m n : Nat} (ha : Ord a m) (hb : Ord b n) (hc : Nat.Coprime m n) : Ord (a * b) (m * n) := by
  refine ⟨Nat.mul_pos ha.1 hb.1, ?_, fun k k1 k2 e => ?_⟩
  · rw [mul_pw, pw_mul, ha.2.1, one_pw, one_mul, Nat.mul_comm, pw_mul, hb.2.1, one_pw]
  · have h1 : n ∣ k := by
      have h := congrArg (fun x => pw x m) e
      simp only [one_pw] at h
      rw [← pw_mul, Nat.mul_comm, mul_pw, pw_mul, ha.2.1, one_pw, one_mul, ord_dvd hb] at h
      exact Nat.Coprime.dvd_of_dvd_mul_left hc.symm h
    have h2 : m ∣ k := by
      have h := congrArg (fun x => pw x n) e
      simp only [one_pw] at h
      rw [← pw_mul, Nat.mul_comm k n, mul_pw, pw_mul b, hb.2.1, one_pw, mul_one, ord_dvd ha] at h
      exact Nat.Coprime.dvd_of_dvd_mul_left hc h
    have := Nat.le_of_dvd k1 (Nat.Coprime.mul_dvd_of_dvd_of_dvd hc h2 h1)
    omega
end order

/-- A prime divisor. -/
theorem fac_ex : ∀ n : Nat, 2 ≤ n → ∃ r, 2 ≤ r ∧ r ∣ n ∧ ∀ k, 2 ≤ k → k ∣ r → k = r := by
  intro n
  induction n using Nat.strongRecOn with
  | ind n ih =>
    intro h2
    by_cases h : ∃ k, 2 ≤ k ∧ k ∣ n ∧ k ≠ n
    · obtain ⟨k, k1, k2, k3⟩ := h
      have := Nat.le_of_dvd (by omega) k2
      obtain ⟨r, r1, r2, r3⟩ := ih k (by omega) k1
      exact ⟨r, r1, Nat.dvd_trans r2 k2, r3⟩
    · exact ⟨n, h2, Nat.dvd_refl _, fun k k1 k2 => Classical.byContradiction fun e => h ⟨k, k1, k2, e⟩⟩
/-- The least divisor of m that does not divide n. -/
theorem ndvd_ex : ∀ m n : Nat, 1 ≤ m → ¬ m ∣ n → ∃ d, 1 ≤ d ∧ d ∣ m ∧ ¬ d ∣ n ∧ ∀ e, e ∣ m → e < d → e ∣ n := by
  intro m n h1 h2
  have key : ∀ k, (k ∣ m → ¬ k ∣ n → ∃ d, d ∣ m ∧ ¬ d ∣ n ∧ ∀ e, e ∣ m → e < d → e ∣ n) := by
    intro k
    induction k using Nat.strongRecOn with
    | ind k ih =>
      intro k1 k2
      by_cases h : ∃ e, e ∣ m ∧ e < k ∧ ¬ e ∣ n
      · obtain ⟨e, e1, e2, e3⟩ := h
        exact ih e e2 e1 e3
      · exact ⟨k, k1, k2, fun e e1 e2 => Classical.byContradiction fun e3 => h ⟨e, e1, e2, e3⟩⟩
  obtain ⟨d, d1, d2, d3⟩ := key m (Nat.dvd_refl _) h2
  exact ⟨d, Nat.pos_of_dvd_of_pos d1 h1, d1, d2, d3⟩
/-- Two numbers, of which one does not divide the other, have coprime divisors with a greater product. -/
theorem cop_ex (m n : Nat) (hm : 1 ≤ m) (hn : 1 ≤ n) (h : ¬ m ∣ n) : ∃ a b, a ∣ n ∧ b ∣ m ∧ Nat.Coprime b a ∧ n < a * b := by
  obtain ⟨d, d0, d1, d2, d3⟩ := ndvd_ex m n hm h
  have hd2 : 2 ≤ d := by
    rcases Nat.lt_or_ge d 2 with g | g
    · obtain rfl : d = 1 := by omega
      exact absurd (Nat.one_dvd n) d2
    · exact g
  obtain ⟨p, p1, ⟨e, rfl⟩, p3⟩ := fac_ex d hd2
  have he0 : 1 ≤ e := by rcases Nat.eq_zero_or_pos e with g | g
                         · subst g; simp at d0
                         · exact g
  have hep : e < p * e := by have := Nat.mul_le_mul_right e p1; omega
  obtain ⟨n1, hn1⟩ := d3 e (Nat.dvd_trans (Nat.dvd_mul_left _ _) d1) hep
  have hpn : ¬ p ∣ n1 := fun ⟨c, hc⟩ => d2 ⟨c, by rw [hn1, hc]; ac_rfl⟩
  refine ⟨n1, p * e, ⟨e, by rw [hn1, Nat.mul_comm]⟩, d1, ?_, ?_⟩
  · refine Classical.byContradiction fun hg => ?_
    have hg0 : 1 ≤ Nat.gcd (p * e) n1 := Nat.gcd_pos_of_pos_left _ d0
    have hg2 : 2 ≤ Nat.gcd (p * e) n1 := by
      have : Nat.gcd (p * e) n1 ≠ 1 := hg
      omega
    obtain ⟨r, r1, r2, r3⟩ := fac_ex _ hg2
    have rd : r ∣ p * e := Nat.dvd_trans r2 (Nat.gcd_dvd_left _ _)
    have rn : r ∣ n1 := Nat.dvd_trans r2 (Nat.gcd_dvd_right _ _)
    have hrp : Nat.Coprime r p := by
      refine Classical.byContradiction fun hc => ?_
      have : 1 ≤ Nat.gcd r p := Nat.gcd_pos_of_pos_left _ (by omega)
      have h2 : 2 ≤ Nat.gcd r p := by
        have : Nat.gcd r p ≠ 1 := hc
        omega
      have a1 := r3 _ h2 (Nat.gcd_dvd_left _ _)
      have a2 := p3 _ h2 (Nat.gcd_dvd_right _ _)
      exact hpn (by rw [← a2, a1]; exact rn)
    obtain ⟨s, hs⟩ := Nat.Coprime.dvd_of_dvd_mul_left hrp rd
    subst hs
    have hps : p * s ∣ n := d3 (p * s) (Nat.dvd_trans ⟨r, by ac_rfl⟩ d1) (by
      have h0 : 1 ≤ p * s := by
        rcases Nat.eq_zero_or_pos (p * s) with g | g
        · have : p * (r * s) = r * (p * s) := by ac_rfl
          rw [this, g] at d0
          omega
        · exact g
      have := Nat.mul_le_mul_right (p * s) r1
      have e1 : p * (r * s) = r * (p * s) := by ac_rfl
      omega)
    obtain ⟨x, hx⟩ := hps
    have hs0 : 1 ≤ s := by rcases Nat.eq_zero_or_pos s with g | g
                           · subst g; simp at d0
                           · exact g
    have e2 : s * (p * x) = s * (r * n1) := by
      rw [hn1] at hx
      have : s * (p * x) = p * s * x := by ac_rfl
      rw [this, ← hx]
      ac_rfl
    have e3 := Nat.eq_of_mul_eq_mul_left hs0 e2
    obtain ⟨c, hc⟩ := Nat.Coprime.dvd_of_dvd_mul_left hrp (⟨n1, e3⟩ : r ∣ p * x)
    exact d2 ⟨c, by rw [hx, hc]; ac_rfl⟩
  · have e1 : n1 * (p * e) = p * n := by rw [hn1]; ac_rfl
    rw [e1]
    have := Nat.mul_le_mul_right n p1
    omega

/-- As many as fit. -/
theorem nodup_sub {α : Type} : ∀ {l k : List α}, l.Nodup → (∀ x ∈ l, x ∈ k) → l.length ≤ k.length := by
  intro l
  induction l with
  | nil => intro k _ _; simp
  | cons x l ih =>
    intro k hl hs
    obtain ⟨s, t, rfl⟩ := List.append_of_mem (hs x (by simp))
    have hl' := List.nodup_cons.1 hl
    have := ih (k := s ++ t) hl'.2 fun y hy => by
      have h1 := hs y (by simp [hy])
      have hne : y ≠ x := fun e => hl'.1 (e ▸ hy)
      simp only [List.mem_append, List.mem_cons] at h1 ⊢
      rcases h1 with h | h | h
      · exact .inl h
      · exact absurd h hne
      · exact .inr h
    simp only [List.length_append, List.length_cons] at this ⊢
    omega

section finite
variable {α : Type} [Fd α]
/-- A list of all elements. -/
structure All (l : List α) : Prop where
  nd : l.Nodup
  all : ∀ x, x ∈ l

open Classical in
theorem All.nz {l : List α} (h : All l) : ∃ k : List α, k.Nodup ∧ (∀ x, x ∈ k ↔ x ≠ 0) ∧ k.length + 1 = l.length := by
  obtain ⟨s, t, rfl⟩ := List.append_of_mem (h.all 0)
  have hn := h.nd
  refine ⟨s ++ t, ?_, fun x => ?_, by simp; omega⟩
  · rw [List.nodup_append] at hn ⊢
    exact ⟨hn.1, (List.nodup_cons.1 hn.2.1).2, fun a ha b hb => hn.2.2 a ha b (by simp [hb])⟩
  · have hx := h.all x
    rw [List.nodup_append] at hn
    simp only [List.mem_append, List.mem_cons] at hx ⊢
    constructor
    · rintro h2 rfl
      rcases h2 with h2 | h2
      · exact hn.2.2 _ h2 _ (by simp) rfl
      · exact (List.nodup_cons.1 hn.2.1).1 h2
    · intro h2
      rcases hx with h3 | h3 | h3
      · exact .inl h3
      · exact absurd h3 h2
      · exact .inr h3

/-- Powers below the order differ. -/
theorem pw_inj {a : α} (ha : a ≠ 0) {n i j : Nat} (h : Ord a n) (hi : i < n) (hj : j < n) (e : pw a i = pw a j) : i = j := by
  have key : ∀ i j, i ≤ j → j < n → pw a i = pw a j → i = j := fun i j hij hj e => by
    obtain ⟨k, rfl⟩ := Nat.exists_eq_add_of_le hij
    rw [pw_add] at e
    have e2 : pw a k = 1 := mul_left_cancel (pw_ne ha i) (by rw [← e, mul_one])
    by_cases hk : k = 0
    · omega
    · exact absurd e2 (h.2.2 k (by omega) (by omega))
  rcases Nat.le_total i j with g | g
  · exact key i j g hj e
  · exact (key j i g hi e.symm).symm
theorem ord_ex {l : List α} (hl : All l) {a : α} (ha : a ≠ 0) : ∃ n, n + 1 ≤ l.length ∧ Ord a n := by
  obtain ⟨k, k1, k2, k3⟩ := hl.nz
  by_cases h : ∃ n, 1 ≤ n ∧ n ≤ k.length ∧ pw a n = 1
  · obtain ⟨n, n1, n2, n3⟩ := h
    obtain ⟨j, j1, j2⟩ := ord_of n n1 n3
    exact ⟨j, by omega, j2⟩
  · exfalso
    have hnd : ((List.range (k.length + 1)).map (pw a)).Nodup := by
      rw [List.nodup_iff_pairwise_ne, List.pairwise_map]
      refine List.Pairwise.imp_of_mem (R := fun x y => x < y) (fun {x y} hx hy hxy e => ?_) List.pairwise_lt_range
      obtain ⟨c, rfl⟩ := Nat.exists_eq_add_of_le (Nat.le_of_lt hxy)
      rw [pw_add] at e
      have e2 : pw a c = 1 := mul_left_cancel (pw_ne ha x) (by rw [← e, mul_one])
      have := List.mem_range.1 hy
      exact h ⟨c, by omega, by omega, e2⟩
    have := nodup_sub hnd (k := k) fun x hx => by
      obtain ⟨i, _, rfl⟩ := List.mem_map.1 hx
      exact (k2 _).2 (pw_ne ha i)
    simp at this
    omega

theorem max_ex {p : Nat → Prop} (N : Nat) (h0 : ∃ n, p n) (hN : ∀ n, p n → n ≤ N) : ∃ n, p n ∧ ∀ m, p m → m ≤ n := by
  induction N with
  | zero =>
    obtain ⟨n, hn⟩ := h0
    have := hN n hn
    exact ⟨n, hn, fun m hm => by have := hN m hm; omega⟩
  | succ N ih =>
    by_cases h : p (N + 1)
    · exact ⟨_, h, hN⟩
    · exact ih fun n hn => by
        have := hN n hn
        have : n ≠ N + 1 := fun e => h (e ▸ hn)
        omega

/-- There is an element of which all others but 0 are powers. -/
theorem cyclic {l : List α} (hl : All l) : ∃ g : α, g ≠ 0 ∧ Ord g (l.length - 1) := by
  obtain ⟨n, ⟨a, ha, hn⟩, hmax⟩ := max_ex (p := fun n => ∃ a : α, a ≠ 0 ∧ Ord a n) l.length ⟨1, 1, one_ne, ord_one⟩ (fun n ⟨a, ha, hn⟩ => by
    obtain ⟨k, k1, k2⟩ := ord_ex hl ha
    have := ord_unique hn k2
    omega)
  have hall : ∀ b : α, b ≠ 0 → pw b n = 1 := fun b hb => by
    obtain ⟨m, m1, m2⟩ := ord_ex hl hb
    refine (ord_dvd m2).2 (Classical.byContradiction fun h => ?_)
    obtain ⟨x, y, ⟨x', hx⟩, ⟨y', hy⟩, hc, hlt⟩ := cop_ex m n m2.1 hn.1 h
    have o1 : Ord (pw a x') x := ord_pw (by rw [Nat.mul_comm, ← hx]; exact hn)
    have o2 : Ord (pw b y') y := ord_pw (by rw [Nat.mul_comm, ← hy]; exact m2)
    have o3 := ord_mul o1 o2 hc.symm
    have := hmax _ ⟨_, mul_ne (pw_ne ha _) (pw_ne hb _), o3⟩
    omega
  obtain ⟨k, k1, k2, k3⟩ := hl.nz
  have hp : dl (X n - C 1 : PS α) (n + 1) := dl_sub (dl_X n) (dl_mono (dl_C 1) (by omega))
  have hp0 : (X n - C 1 : PS α) ≠ 0 := fun e => by
    have := congrArg (fun p : PS α => p n) e
    simp only [sub_at, X_at, C_at, zero_at, if_pos] at this
    have h1 := hn.1
    rw [if_neg (by omega), sub_zero] at this
    exact one_ne this
  have := roots_le hp hp0 k1 fun x hx => by
    rw [ev_sub, ev_X (by omega), ev_C (by omega), hall x ((k2 x).1 hx), sub_self]
  obtain ⟨j, j1, j2⟩ := ord_ex hl ha
  have e := ord_unique hn j2
  refine ⟨a, ha, ?_⟩
  have : n = l.length - 1 := by omega
  rw [← this]
  exact hn
end finite
end Cw
