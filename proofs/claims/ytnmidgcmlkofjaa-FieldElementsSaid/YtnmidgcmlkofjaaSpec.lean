/- What the functions of the field's layer come to, in plain terms: no program in sight. -/
namespace Cw

/-- The order of a field: p to the power of m, or 0. -/
def ordS (p m : Int) : Int := if 2 ≤ p ∧ p ≤ 256 ∧ 1 ≤ m ∧ m ≤ 8 ∧ p ^ m.toNat ≤ 256 then p ^ m.toNat else 0
def Prm (n : Int) : Prop := 2 ≤ n ∧ ∀ d : Int, 2 ≤ d → d < n → n % d ≠ 0
/-- The digit number i of x in base p. -/
def dgt (p x : Int) (i : Nat) : Int := x / p ^ i % p
def digL (p x : Int) (m : Nat) : List Int := (List.range m).map (dgt p x)
/-- The number with the given digits, the lowest first. -/
def valL (p : Int) : List Int → Int
  | [] => 0
  | d :: l => d + p * valL p l

theorem ordS_yes {p m : Int} (h1 : 2 ≤ p) (h2 : p ≤ 256) (h3 : 1 ≤ m) (h4 : m ≤ 8) (h5 : p ^ m.toNat ≤ 256) : ordS p m = p ^ m.toNat := if_pos ⟨h1, h2, h3, h4, h5⟩
theorem ordS_no {p m : Int} (h : ¬ (2 ≤ p ∧ p ≤ 256 ∧ 1 ≤ m ∧ m ≤ 8 ∧ p ^ m.toNat ≤ 256)) : ordS p m = 0 := if_neg h
theorem pow_le {p : Int} (hp : 1 ≤ p) {i j : Nat} (h : i ≤ j) : p ^ i ≤ p ^ j := by
  obtain ⟨k, rfl⟩ := Nat.exists_eq_add_of_le h
  induction k with
  | zero => exact Int.le_refl _
  | succ k ih =>
    have h1 : 0 < p ^ (i + k) := Int.pow_pos (by omega)
    have h2 := ih (by omega)
    rw [← Nat.add_assoc, Int.pow_succ]
    have h3 : p ^ (i + k) * 1 ≤ p ^ (i + k) * p := Int.mul_le_mul_of_nonneg_left hp (by omega)
    omega
theorem ordS_pos {p m : Int} (h : ordS p m ≠ 0) : 2 ≤ p ∧ p ≤ 256 ∧ 1 ≤ m ∧ m ≤ 8 ∧ p ^ m.toNat ≤ 256 ∧ ordS p m = p ^ m.toNat := by
  unfold ordS at *
  split at h
  · rename_i g; exact ⟨g.1, g.2.1, g.2.2.1, g.2.2.2.1, g.2.2.2.2, by rw [if_pos g]⟩
  · exact absurd rfl h
theorem prm_of {n : Int} {d : Int} (h2 : 2 ≤ n) (hd : 2 ≤ d) (hn : n < d * d) (h : ∀ c : Int, 2 ≤ c → c < d → n % c ≠ 0) : Prm n := by
  refine ⟨h2, fun c hc hcn hz => ?_⟩
  by_cases hcd : c < d
  · exact h c hc hcd hz
  · have e := Int.mul_ediv_add_emod n c
    rw [hz, Int.add_zero] at e
    have hk1 : 1 < n / c := by
      rcases Int.lt_or_le 1 (n / c) with g | g
      · exact g
      · have : c * (n / c) ≤ c * 1 := Int.mul_le_mul_of_nonneg_left g (by omega)
        omega
    have hkd : n / c < d := by
      rcases Int.lt_or_le (n / c) d with g | g
      · exact g
      · have h3 : d * d ≤ c * d := Int.mul_le_mul_of_nonneg_right (by omega) (by omega)
        have h4 : c * d ≤ c * (n / c) := Int.mul_le_mul_of_nonneg_left g (by omega)
        omega
    refine h (n / c) (by omega) hkd ?_
    have : n = (n / c) * c := by rw [Int.mul_comm]; exact e.symm
    rw [this, Int.mul_ediv_cancel _ (by omega), Int.mul_emod_right]
theorem sq_bd {d : Int} (h0 : 0 ≤ d) (h : d ≤ 17) : 0 ≤ d * d ∧ d * d ≤ 289 := by
  have h1 : d * d ≤ 17 * d := Int.mul_le_mul_of_nonneg_right h h0
  have h2 := Int.mul_nonneg h0 h0
  omega
theorem sq_le {d : Int} (h0 : 0 ≤ d) (h : d * d ≤ 256) : d ≤ 16 := by
  rcases Int.lt_or_le 16 d with g | g
  · have h1 : 17 * d ≤ d * d := Int.mul_le_mul_of_nonneg_right (by omega) h0
    omega
  · exact g

theorem list_eq_of {l m : List Int} (hl : l.length = m.length) (h : ∀ i, i < l.length → l.getD i 0 = m.getD i 0) : l = m := by
  refine List.ext_getElem hl (fun i h1 h2 => ?_)
  have := h i h1
  simpa only [List.getD, List.getElem?_eq_getElem h1, List.getElem?_eq_getElem h2, Option.getD_some] using this
theorem length_digL (p x : Int) (m : Nat) : (digL p x m).length = m := by simp [digL]
theorem digL_at {p x : Int} {m i : Nat} (h : i < m) : (digL p x m).getD i 0 = dgt p x i := by simp [digL, List.getD, h]
theorem dgt_nonneg {p x : Int} (hp : 0 < p) (i : Nat) : 0 ≤ dgt p x i := Int.emod_nonneg _ (by omega)
theorem dgt_lt {p x : Int} (hp : 0 < p) (i : Nat) : dgt p x i < p := Int.emod_lt_of_pos _ hp
theorem dgt_zero (p x : Int) : dgt p x 0 = x % p := by simp [dgt]
theorem dgt_succ {p x : Int} (hp : 0 < p) (i : Nat) : dgt p x (i + 1) = dgt p (x / p) i := by
  unfold dgt
  rw [Int.pow_succ, Int.mul_comm, Int.ediv_ediv_of_nonneg (by omega)]
theorem div_pow_succ {p x : Int} (hp : 0 < p) (i : Nat) : x / p ^ i / p = x / p ^ (i + 1) := by
  rw [Int.pow_succ, Int.ediv_ediv_of_nonneg (Int.le_of_lt (Int.pow_pos hp))]

/-- The number with the digits from number k on. -/
def valF (p : Int) (l : List Int) (k : Nat) : Int := valL p (l.drop k)
theorem valF_end (p : Int) (l : List Int) : valF p l l.length = 0 := by simp [valF, valL]
theorem valF_zero (p : Int) (l : List Int) : valF p l 0 = valL p l := rfl
theorem valF_step (p : Int) (l : List Int) {k : Nat} (h : k < l.length) : valF p l k = valF p l (k + 1) * p + l.getD k 0 := by
  unfold valF
  rw [List.drop_eq_getElem_cons h, valL]
  simp only [List.getD, List.getElem?_eq_getElem h, Option.getD_some]
  rw [Int.mul_comm, Int.add_comm]
def Digs (p : Int) (l : List Int) : Prop := ∀ x ∈ l, 0 ≤ x ∧ x < p
theorem digs_drop {p : Int} {l : List Int} (h : Digs p l) (k : Nat) : Digs p (l.drop k) := fun x hx => h x (List.mem_of_mem_drop hx)
theorem valL_bd {p : Int} (hp : 0 < p) : ∀ {l : List Int}, Digs p l → 0 ≤ valL p l ∧ valL p l < p ^ l.length
  | [], _ => by simp [valL]
  | d :: l, h => by
    obtain ⟨h1, h2⟩ := valL_bd hp (l := l) (fun x hx => h x (by simp [hx]))
    obtain ⟨h3, h4⟩ := h d (by simp)
    have h5 : 0 ≤ p * valL p l := Int.mul_nonneg (by omega) h1
    have h6 : p * (valL p l + 1) ≤ p * p ^ l.length := Int.mul_le_mul_of_nonneg_left (by omega) (by omega)
    rw [Int.mul_add, Int.mul_one] at h6
    rw [List.length_cons, Int.pow_succ, Int.mul_comm (p ^ l.length), valL]
    omega
theorem valF_bd {p : Int} (hp : 1 ≤ p) {l : List Int} (h : Digs p l) (k : Nat) : 0 ≤ valF p l k ∧ valF p l k < p ^ l.length := by
  have h1 := valL_bd (by omega) (digs_drop h k)
  have h2 : p ^ (l.drop k).length ≤ p ^ l.length := pow_le hp (by simp)
  exact ⟨h1.1, by have := h1.2; unfold valF; omega⟩

/-! ### The product of two residues, as the program reckons it: one coefficient of y after the other. -/
def stepM (p : Int) (m : Nat) (mod a : List Int) (bi : Int) (out : List Int) : List Int :=
  (List.range m).map fun j => ((if j = 0 then 0 else out.getD (j - 1) 0) + (p - out.getD (m - 1) 0) * (if 1 < m then mod.getD j 0 else 0) + bi * a.getD j 0) % p
def hornM (p : Int) (m : Nat) (mod a b : List Int) : Nat → List Int
  | 0 => List.replicate m 0
  | n + 1 => stepM p m mod a (b.getD (m - 1 - n) 0) (hornM p m mod a b n)
def mulS (p : Int) (m : Nat) (mod : List Int) (x y : Int) : Int := valL p (hornM p m mod (digL p x m) (digL p y m) m)

theorem length_stepM (p : Int) (m : Nat) (mod a : List Int) (bi : Int) (out : List Int) : (stepM p m mod a bi out).length = m := by simp [stepM]
theorem length_hornM (p : Int) (m : Nat) (mod a b : List Int) (n : Nat) : (hornM p m mod a b n).length = m := by cases n <;> simp [hornM, length_stepM]
theorem stepM_at {p : Int} {m : Nat} {mod a : List Int} {bi : Int} {out : List Int} {j : Nat} (h : j < m) :
    (stepM p m mod a bi out).getD j 0 = ((if j = 0 then 0 else out.getD (j - 1) 0) + (p - out.getD (m - 1) 0) * (if 1 < m then mod.getD j 0 else 0) + bi * a.getD j 0) % p := by simp [stepM, List.getD, h]
theorem digs_stepM {p : Int} (hp : 0 < p) (m : Nat) (mod a : List Int) (bi : Int) (out : List Int) : Digs p (stepM p m mod a bi out) := fun x hx => by
  obtain ⟨j, _, rfl⟩ := List.mem_map.1 hx
  exact ⟨Int.emod_nonneg _ (by omega), Int.emod_lt_of_pos _ hp⟩
theorem digs_hornM {p : Int} (hp : 0 < p) (m : Nat) (mod a b : List Int) : ∀ n, Digs p (hornM p m mod a b n)
  | 0 => fun x hx => by rw [(List.mem_replicate.1 hx).2]; omega
  | n + 1 => digs_stepM hp _ _ _ _ _
theorem digs_at {p : Int} {l : List Int} (hp : 0 < p) (h : Digs p l) (i : Nat) : 0 ≤ l.getD i 0 ∧ l.getD i 0 < p := by
  by_cases hi : i < l.length
  · simp only [List.getD, List.getElem?_eq_getElem hi, Option.getD_some]
    exact h _ (List.getElem_mem _)
  · simp only [List.getD, List.getElem?_eq_none (Nat.not_lt.1 hi), Option.getD_none]
    omega
theorem digs_digL {p x : Int} (hp : 0 < p) (m : Nat) : Digs p (digL p x m) := fun y hy => by
  obtain ⟨j, _, rfl⟩ := List.mem_map.1 hy
  exact ⟨dgt_nonneg hp _, dgt_lt hp _⟩
theorem shift_at {ys : List Int} {m j : Nat} (hl : ys.length = m) (hj : j < m) : ((ys.take 1 ++ ys.take (m - 1)).set 0 0).getD j 0 = if j = 0 then 0 else ys.getD (j - 1) 0 := by
  by_cases h : j = 0
  · subst h
    have : 0 < (ys.take 1 ++ ys.take (m - 1)).length := by simp; omega
    simp only [List.getD, List.getElem?_set_self this, Option.getD_some, if_true]
  · rw [if_neg h]
    simp only [List.getD]
    rw [List.getElem?_set_ne (by omega), List.getElem?_append_right (by simp; omega), List.getElem?_take_of_lt (by simp; omega)]
    congr 2
    simp
    omega
theorem length_shift {ys : List Int} {m : Nat} (hl : ys.length = m) (hm : 1 ≤ m) : ((ys.take 1 ++ ys.take (m - 1)).set 0 0).length = m := by simp; omega
/-- What bounds a coefficient of the product before it is reduced. -/
theorem step_bd {p t l b c : Int} (hp : 2 ≤ p) (hp2 : p ≤ 256) (ht : 0 ≤ t ∧ t < p) (hl : 0 ≤ l ∧ l < p) (hb : 0 ≤ b ∧ b < p) (hc : 0 ≤ c ∧ c < p) :
    0 ≤ (p - t) * l ∧ (p - t) * l ≤ 65536 ∧ 0 ≤ b * c ∧ b * c ≤ 65536 := by
  have h1 : 0 ≤ (p - t) * l := Int.mul_nonneg (by omega) hl.1
  have h2 : (p - t) * l ≤ 256 * l := Int.mul_le_mul_of_nonneg_right (by omega) hl.1
  have h3 : 0 ≤ b * c := Int.mul_nonneg hb.1 hc.1
  have h4 : b * c ≤ 256 * c := Int.mul_le_mul_of_nonneg_right (by omega) hc.1
  omega
end Cw
