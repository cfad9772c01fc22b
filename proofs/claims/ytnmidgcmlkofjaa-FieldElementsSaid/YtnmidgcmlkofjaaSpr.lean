/- What the reference's functions on fields come to, in plain terms. -/
import Derived.Test.YtnmidgcmlkofjaaSpd
namespace Cw

/-- One row of the long division: coefficient number i is cleared. -/
def divRow (p : Int) (low : List Int) (i : Nat) (r : List Int) : List Int :=
  (List.range r.length).map fun k => if k = i then 0 else if i - low.length ≤ k ∧ k < i then (r.getD k 0 + (p - r.getD i 0) * low.getD (k - (i - low.length)) 0) % p else r.getD k 0
/-- The first n rows, from the highest coefficient on. -/
def divF (p : Int) (low r : List Int) : Nat → List Int
  | 0 => r
  | n + 1 => divRow p low (r.length - 1 - n) (divF p low r n)
/-- The monic polynomial with the low coefficients low divides the one with the low coefficients mod. -/
def DivP (p : Int) (low mod : List Int) : Prop := ∀ x ∈ divF p low (mod ++ [1]) (mod.length + 1 - low.length), x = 0
/-- No monic divisor of a degree from 1 to half of that of the polynomial. -/
def IrrP (p : Int) (mod : List Int) : Prop := ∀ d : Nat, 1 ≤ d → 2 * d ≤ mod.length → ∀ v : Nat, (v : Int) < p ^ d → ¬ DivP p (digL p v d) mod
/-- The reference's check. -/
def CheckP (P M : Int) (mod : List Int) : Prop := ShapeP P M mod ∧ (M ≠ 1 → IrrP P mod)

theorem length_divRow (p : Int) (low : List Int) (i : Nat) (r : List Int) : (divRow p low i r).length = r.length := by simp [divRow]
theorem length_divF (p : Int) (low r : List Int) (n : Nat) : (divF p low r n).length = r.length := by
  induction n with
  | zero => rfl
  | succ n ih => rw [divF, length_divRow, ih]
theorem divRow_at {p : Int} {low : List Int} {i : Nat} {r : List Int} {k : Nat} (h : k < r.length) :
    (divRow p low i r).getD k 0 = if k = i then 0 else if i - low.length ≤ k ∧ k < i then (r.getD k 0 + (p - r.getD i 0) * low.getD (k - (i - low.length)) 0) % p else r.getD k 0 := by
  simp [divRow, List.getD, h]
theorem digs_divRow {p : Int} (hp : 0 < p) {low : List Int} {i : Nat} {r : List Int} (h : Digs p r) : Digs p (divRow p low i r) := fun x hx => by
  obtain ⟨k, _, rfl⟩ := List.mem_map.1 hx
  split
  · omega
  · split
    · exact ⟨Int.emod_nonneg _ (by omega), Int.emod_lt_of_pos _ hp⟩
    · exact digs_at hp h k
theorem digs_divF {p : Int} (hp : 0 < p) {low r : List Int} (h : Digs p r) (n : Nat) : Digs p (divF p low r n) := by
  induction n with
  | zero => exact h
  | succ n ih => exact digs_divRow hp ih
/-- The order, as the reference reckons it. -/
theorem quo_test {p Q : Int} (hp : 0 < p) : Q ≤ 256 / p ↔ Q * p ≤ 256 := by
  rw [Int.le_ediv_iff_mul_le hp]
end Cw
