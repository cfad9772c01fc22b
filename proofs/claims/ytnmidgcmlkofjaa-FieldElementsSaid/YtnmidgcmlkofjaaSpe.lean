/- Powers, sums and products of lists, in plain terms. -/
import Derived.Test.YtnmidgcmlkofjaaSpd
namespace Cw
def powG (G : GFd) (x n : Int) : Int := expG G (logG G (inn G.q x) * (n % (G.q - 1)))
/-- The sum of the first k entries. -/
def sumG (G : GFd) (l : List Int) : Nat → Int
  | 0 => 0
  | k + 1 => addG G (sumG G l k) (l.getD k 0)
def dotG (G : GFd) (a b : List Int) : Nat → Int
  | 0 => 0
  | k + 1 => addG G (dotG G a b k) (mulG G (a.getD k 0) (b.getD k 0))
theorem tmod_bd {n k : Int} (hk : 0 < k) : -k < n.tmod k ∧ n.tmod k < k := by
  refine ⟨?_, Int.tmod_lt_of_pos n hk⟩
  have h := Int.tmod_lt_of_pos (-n) hk
  rw [Int.neg_tmod] at h
  omega
theorem tmod_emod {n k : Int} : (n.tmod k + k) % k = n % k := by
  have h := Int.mul_tdiv_add_tmod n k
  have h2 : n.tmod k = n + k * (-(n.tdiv k)) := by rw [Int.mul_neg]; omega
  rw [h2, Int.add_emod_right, Int.add_mul_emod_self_left]
theorem mul_bd {u v : Int} (h0 : 0 ≤ u) (h1 : u ≤ 256) (h2 : 0 ≤ v) (h3 : v ≤ 256) : 0 ≤ u * v ∧ u * v ≤ 65536 := by
  have a := Int.mul_nonneg h0 h2
  have b : u * v ≤ 256 * v := Int.mul_le_mul_of_nonneg_right h1 h2
  omega
end Cw
