/- Sums and negatives of coefficients, and what the tables of a field hold, in plain terms. -/
import Derived.Test.YtnmidgcmlkofjaaSpc
namespace Cw

/-- An element, or 0. -/
def inn (q x : Int) : Int := if 0 ≤ x ∧ x < q then x else 0
theorem inn_yes {q x : Int} (h : 0 ≤ x ∧ x < q) : inn q x = x := if_pos h
theorem inn_no {q x : Int} (h : ¬ (0 ≤ x ∧ x < q)) : inn q x = 0 := if_neg h
theorem inn_bd {q : Int} (hq : 0 < q) (x : Int) : 0 ≤ inn q x ∧ inn q x < q := by unfold inn; split <;> omega
theorem inn_inn {q : Int} (hq : 0 < q) (x : Int) : inn q (inn q x) = inn q x := inn_yes (inn_bd hq x)

def addD (P : Int) : Nat → Int → Int → Int
  | 0, _, _ => 0
  | k + 1, x, y => (x + y) % P + P * addD P k (x / P) (y / P)
def negD (P : Int) : Nat → Int → Int
  | 0, _ => 0
  | k + 1, x => -(x % P) % P + P * negD P k (x / P)

theorem addD_zero {P : Int} : ∀ k, addD P k 0 0 = 0
  | 0 => rfl
  | k + 1 => by rw [addD, Int.zero_ediv, addD_zero k]; simp
theorem negD_zero {P : Int} : ∀ k, negD P k 0 = 0
  | 0 => rfl
  | k + 1 => by rw [negD, Int.zero_ediv, negD_zero k]; simp

def AddInv (P : Int) (m : Nat) (X Y x y sum place : Int) : Prop := ∃ k : Nat, 0 ≤ x ∧ x < P ^ k ∧ 0 ≤ y ∧ y < P ^ k ∧ 0 ≤ sum ∧ sum < place ∧ place * x ≤ X ∧ place * y ≤ Y ∧ sum + place * addD P k x y = addD P m X Y
theorem addInv_start {P X Y : Int} {m : Nat} (hX : 0 ≤ X ∧ X < P ^ m) (hY : 0 ≤ Y ∧ Y < P ^ m) : AddInv P m X Y X Y 0 1 := ⟨m, hX.1, hX.2, hY.1, hY.2, by omega, by omega, by omega, by omega, by omega⟩
theorem addInv_bd {P X Y x y sum place : Int} {m : Nat} (h : AddInv P m X Y x y sum place) : 0 ≤ x ∧ 0 ≤ y ∧ 0 ≤ sum ∧ sum < place ∧ x ≤ X ∧ y ≤ Y := by
  obtain ⟨k, h1, h2, h3, h4, h5, h6, h7, h8, _⟩ := h
  have a1 : 1 * x ≤ place * x := Int.mul_le_mul_of_nonneg_right (by omega) h1
  have a2 : 1 * y ≤ place * y := Int.mul_le_mul_of_nonneg_right (by omega) h3
  exact ⟨h1, h3, h5, h6, by omega, by omega⟩
theorem div_lt_pow {P x : Int} {k : Nat} (hP : 0 < P) (h : x < P ^ (k + 1)) : x / P < P ^ k := by
  rw [Int.pow_succ] at h
  exact Int.ediv_lt_of_lt_mul hP h
theorem div_lt_self {P x : Int} (hP : 2 ≤ P) (hx : 0 < x) : x / P < x := by
  refine Int.ediv_lt_of_lt_mul (by omega) ?_
  have : x * 2 ≤ x * P := Int.mul_le_mul_of_nonneg_left hP (by omega)
  omega
theorem place_le {P place x X : Int} (hP : 0 < P) (hp : 0 ≤ place) (h : place * x ≤ X) : place * P * (x / P) ≤ X := by
  have h1 : P * (x / P) ≤ x := Int.mul_ediv_self_le (by omega)
  have h2 : place * (P * (x / P)) ≤ place * x := Int.mul_le_mul_of_nonneg_left h1 hp
  rw [Int.mul_assoc]
  omega
theorem place_bd {place x X : Int} (hx : 0 < x) (hp : 0 ≤ place) (h : place * x ≤ X) : place ≤ X := by
  have h1 : place * 1 ≤ place * x := Int.mul_le_mul_of_nonneg_left (by omega) hp
  omega
theorem addInv_step {P X Y x y sum place : Int} {m : Nat} (hP2 : 2 ≤ P) (hP3 : P ≤ 256) (hX : X ≤ 255) (hY : Y ≤ 255) (h : AddInv P m X Y x y sum place) (hxy : 0 < x ∨ 0 < y) :
    place ≤ 255 ∧ 0 ≤ (x + y) % P * place ∧ (x + y) % P * place ≤ 65535 ∧ place * P ≤ 65536 ∧ 0 ≤ place * P ∧ AddInv P m X Y (x / P) (y / P) (sum + (x + y) % P * place) (place * P) := by
  obtain ⟨k, h1, h2, h3, h4, h5, h6, h7, h8, h9⟩ := h
  have hpl : place ≤ 255 := by
    rcases hxy with g | g
    · have := place_bd g (by omega) h7; omega
    · have := place_bd g (by omega) h8; omega
  have d0 := Int.emod_nonneg (x + y) (show P ≠ 0 by omega)
  have d1 := Int.emod_lt_of_pos (x + y) (show 0 < P by omega)
  have e0 : 0 ≤ (x + y) % P * place := Int.mul_nonneg d0 (by omega)
  have e1 : (x + y) % P * place ≤ 255 * place := Int.mul_le_mul_of_nonneg_right (by omega) (by omega)
  have e2 : place * P ≤ 255 * P := Int.mul_le_mul_of_nonneg_right hpl (by omega)
  have e3 : 0 ≤ place * P := Int.mul_nonneg (by omega) (by omega)
  have e4 : ((x + y) % P + 1) * place ≤ P * place := Int.mul_le_mul_of_nonneg_right (by omega) (by omega)
  rw [Int.add_mul, Int.one_mul, Int.mul_comm P place] at e4
  obtain ⟨j, rfl⟩ : ∃ j, k = j + 1 := by
    cases k with
    | zero => rw [Int.pow_zero] at h2 h4; omega
    | succ j => exact ⟨j, rfl⟩
  refine ⟨hpl, e0, by omega, by omega, e3, j, Int.ediv_nonneg h1 (by omega), div_lt_pow (by omega) h2, Int.ediv_nonneg h3 (by omega), div_lt_pow (by omega) h4, by omega, by omega, place_le (by omega) (by omega) h7, place_le (by omega) (by omega) h8, ?_⟩
  rw [← h9, addD, Int.mul_add, Int.mul_comm ((x + y) % P) place, Int.mul_assoc place P, Int.add_assoc]
theorem addInv_end {P X Y sum place : Int} {m : Nat} (h : AddInv P m X Y 0 0 sum place) : sum = addD P m X Y := by
  obtain ⟨k, _, _, _, _, _, _, _, _, h9⟩ := h
  rw [addD_zero, Int.mul_zero, Int.add_zero] at h9
  exact h9

def NegInv (P : Int) (m : Nat) (X x sum place : Int) : Prop := ∃ k : Nat, 0 ≤ x ∧ x < P ^ k ∧ 0 ≤ sum ∧ sum < place ∧ place * x ≤ X ∧ sum + place * negD P k x = negD P m X
theorem negInv_start {P X : Int} {m : Nat} (hX : 0 ≤ X ∧ X < P ^ m) : NegInv P m X X 0 1 := ⟨m, hX.1, hX.2, by omega, by omega, by omega, by omega⟩
theorem negInv_bd {P X x sum place : Int} {m : Nat} (h : NegInv P m X x sum place) : 0 ≤ x ∧ 0 ≤ sum ∧ sum < place ∧ x ≤ X := by
  obtain ⟨k, h1, h2, h5, h6, h7, _⟩ := h
  have a1 : 1 * x ≤ place * x := Int.mul_le_mul_of_nonneg_right (by omega) h1
  exact ⟨h1, h5, h6, by omega⟩
theorem negInv_step {P X x sum place : Int} {m : Nat} (hP2 : 2 ≤ P) (hP3 : P ≤ 256) (hX : X ≤ 255) (h : NegInv P m X x sum place) (hx : 0 < x) :
    place ≤ 255 ∧ 0 ≤ -(x % P) % P * place ∧ -(x % P) % P * place ≤ 65535 ∧ place * P ≤ 65536 ∧ 0 ≤ place * P ∧ NegInv P m X (x / P) (sum + -(x % P) % P * place) (place * P) := by
  obtain ⟨k, h1, h2, h5, h6, h7, h9⟩ := h
  have hpl : place ≤ 255 := by have := place_bd hx (by omega) h7; omega
  have d0 := Int.emod_nonneg (-(x % P)) (show P ≠ 0 by omega)
  have d1 := Int.emod_lt_of_pos (-(x % P)) (show 0 < P by omega)
  have e0 : 0 ≤ -(x % P) % P * place := Int.mul_nonneg d0 (by omega)
  have e1 : -(x % P) % P * place ≤ 255 * place := Int.mul_le_mul_of_nonneg_right (by omega) (by omega)
  have e2 : place * P ≤ 255 * P := Int.mul_le_mul_of_nonneg_right hpl (by omega)
  have e3 : 0 ≤ place * P := Int.mul_nonneg (by omega) (by omega)
  have e4 : (-(x % P) % P + 1) * place ≤ P * place := Int.mul_le_mul_of_nonneg_right (by omega) (by omega)
  rw [Int.add_mul, Int.one_mul, Int.mul_comm P place] at e4
  obtain ⟨j, rfl⟩ : ∃ j, k = j + 1 := by
    cases k with
    | zero => rw [Int.pow_zero] at h2; omega
    | succ j => exact ⟨j, rfl⟩
  refine ⟨hpl, e0, by omega, by omega, e3, j, Int.ediv_nonneg h1 (by omega), div_lt_pow (by omega) h2, by omega, by omega, place_le (by omega) (by omega) h7, ?_⟩
  rw [← h9, negD, Int.mul_add, Int.mul_comm (-(x % P) % P) place, Int.mul_assoc place P, Int.add_assoc]
theorem negInv_end {P X sum place : Int} {m : Nat} (h : NegInv P m X 0 sum place) : sum = negD P m X := by
  obtain ⟨k, _, _, _, _, _, h9⟩ := h
  rw [negD_zero, Int.mul_zero, Int.add_zero] at h9
  exact h9

theorem addD_bd {P : Int} (hP : 0 < P) : ∀ (k : Nat) (x y : Int), 0 ≤ addD P k x y ∧ addD P k x y < P ^ k
  | 0, _, _ => by simp [addD]
  | k + 1, x, y => by
    obtain ⟨h1, h2⟩ := addD_bd hP k (x / P) (y / P)
    have d0 := Int.emod_nonneg (x + y) (show P ≠ 0 by omega)
    have d1 := Int.emod_lt_of_pos (x + y) hP
    have h3 : 0 ≤ P * addD P k (x / P) (y / P) := Int.mul_nonneg (by omega) h1
    have h4 : P * (addD P k (x / P) (y / P) + 1) ≤ P * P ^ k := Int.mul_le_mul_of_nonneg_left (by omega) (by omega)
    rw [Int.mul_add, Int.mul_one] at h4
    rw [addD, Int.pow_succ, Int.mul_comm (P ^ k)]
    omega
theorem negD_bd {P : Int} (hP : 0 < P) : ∀ (k : Nat) (x : Int), 0 ≤ negD P k x ∧ negD P k x < P ^ k
  | 0, _ => by simp [negD]
  | k + 1, x => by
    obtain ⟨h1, h2⟩ := negD_bd hP k (x / P)
    have d0 := Int.emod_nonneg (-(x % P)) (show P ≠ 0 by omega)
    have d1 := Int.emod_lt_of_pos (-(x % P)) hP
    have h3 : 0 ≤ P * negD P k (x / P) := Int.mul_nonneg (by omega) h1
    have h4 : P * (negD P k (x / P) + 1) ≤ P * P ^ k := Int.mul_le_mul_of_nonneg_left (by omega) (by omega)
    rw [Int.mul_add, Int.mul_one] at h4
    rw [negD, Int.pow_succ, Int.mul_comm (P ^ k)]
    omega

/-- A list without repetitions in a range of n numbers has at most n entries. -/
theorem nodup_le : ∀ (n : Nat) (l : List Int) (a : Int), l.Nodup → (∀ x ∈ l, a ≤ x ∧ x < a + n) → l.length ≤ n
  | 0, l, a, _, h => by
    cases l with
    | nil => simp
    | cons x l => have := h x (by simp); omega
  | n + 1, l, a, hn, h => by
    have h1 := nodup_le n (l.erase (a + n)) a (hn.erase _) (fun x hx => by
      have h2 := h x (List.mem_of_mem_erase hx)
      have h3 : x ≠ a + n := (List.Nodup.mem_erase_iff hn).1 hx |>.1
      omega)
    have h2 := List.length_erase (a := a + (n : Int)) (l := l)
    split at h2 <;> omega

namespace Tabs
variable {G : GFd}
theorem qb (h : Tabs G) : 2 ≤ G.q ∧ G.q ≤ 256 ∧ 2 ≤ G.P ∧ G.P ≤ 256 ∧ 1 ≤ G.M ∧ G.M ≤ 8 ∧ G.q = G.P ^ G.M.toNat := by
  obtain ⟨o1, o2, o3, o4, o5, o6⟩ := ordS_pos h.shape.1
  have hq := h.hq
  have h2 : G.P ^ 1 ≤ G.P ^ G.M.toNat := pow_le (by omega) (by omega)
  rw [Int.pow_one] at h2
  omega
theorem elen (h : Tabs G) : G.exp.length = G.q.toNat - 1 := by
  obtain ⟨x, _, _, hg, he⟩ := h.gen
  rw [he]; exact hg.1
theorem ebd (h : Tabs G) : ∀ z ∈ G.exp, 1 ≤ z ∧ z < G.q := fun z hz => by
  obtain ⟨x, g1, g2, hg, he⟩ := h.gen
  obtain ⟨q1, q2, q3, q4, q5, q6, q7⟩ := h.qb
  rw [he] at hz
  have h1 := powL_bd q3 (show 1 ≤ G.M.toNat by omega) G.mod (by omega) (by rw [← q7]; exact g2) z hz
  have h2 := powL_nz _ _ _ _ z hz
  omega
theorem end' (h : Tabs G) : G.exp.Nodup := by
  obtain ⟨x, _, _, _, he⟩ := h.gen
  rw [he]; exact powL_nodup _ _ _ _
theorem cover (h : Tabs G) {z : Int} (h1 : 1 ≤ z) (h2 : z < G.q) : z ∈ G.exp := by
  obtain ⟨q1, q2, _⟩ := h.qb
  refine Classical.byContradiction fun hn => ?_
  have := nodup_le (G.q.toNat - 1) (z :: G.exp) 1 (List.nodup_cons.2 ⟨hn, h.end'⟩) (fun x hx => by
    rcases List.mem_cons.1 hx with rfl | hx
    · omega
    · have := h.ebd x hx; omega)
  rw [List.length_cons, h.elen] at this
  omega
/-- The logarithm of an element other than 0. -/
theorem logOf (h : Tabs G) {z : Int} (h1 : 1 ≤ z) (h2 : z < G.q) : ∃ i : Nat, i < G.exp.length ∧ G.exp.getD i 0 = z ∧ G.log.getD z.toNat 0 = i := by
  obtain ⟨i, hi, rfl⟩ := List.getElem_of_mem (h.cover h1 h2)
  have e : G.exp.getD i 0 = G.exp[i] := by simp only [List.getD, List.getElem?_eq_getElem hi, Option.getD_some]
  exact ⟨i, hi, e, by rw [← e]; exact h.log i hi⟩
theorem log_bd (h : Tabs G) {z : Int} (h1 : 1 ≤ z) (h2 : z < G.q) : 0 ≤ G.log.getD z.toNat 0 ∧ G.log.getD z.toNat 0 < G.q - 1 := by
  obtain ⟨i, hi, _, h3⟩ := h.logOf h1 h2
  have := h.elen
  rw [h3]
  have := h.qb
  omega
end Tabs

/-- The operations, as the program reckons them by its tables. -/
def addG (G : GFd) (x y : Int) : Int := addD G.P G.M.toNat (inn G.q x) (inn G.q y)
def negG (G : GFd) (x : Int) : Int := negD G.P G.M.toNat (inn G.q x)
def logG (G : GFd) (x : Int) : Int := G.log.getD x.toNat 0
def expG (G : GFd) (i : Int) : Int := G.exp.getD (i % (G.q - 1)).toNat 0
def mulG (G : GFd) (x y : Int) : Int := if inn G.q x = 0 ∨ inn G.q y = 0 then 0 else expG G (logG G (inn G.q x) + logG G (inn G.q y))
def invG (G : GFd) (x : Int) : Int := if inn G.q x = 0 then 0 else expG G (G.q - 1 - logG G (inn G.q x))
end Cw
