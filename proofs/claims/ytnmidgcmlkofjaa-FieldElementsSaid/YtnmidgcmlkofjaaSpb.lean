/- The powers of a residue, in plain terms. -/
import Derived.Test.YtnmidgcmlkofjaaSpec
namespace Cw
theorem mulS_bd {p : Int} (hp : 0 < p) (m : Nat) (mod : List Int) (x y : Int) : 0 ≤ mulS p m mod x y ∧ mulS p m mod x y < p ^ m := by
  have h := valL_bd hp (digs_hornM hp m mod (digL p x m) (digL p y m) m)
  rw [length_hornM] at h
  exact h

/-- One power after the other, till one comes again or is 0. -/
def powsF (f : Int → Int) : Nat → List Int → Int → List Int
  | 0, acc, _ => acc
  | n + 1, acc, y => if y = 0 ∨ y ∈ acc then acc else powsF f n (acc ++ [y]) (f y)
def powL (p : Int) (m : Nat) (mod : List Int) (x : Int) : List Int := powsF (fun y => mulS p m mod y x) (p ^ m).toNat [1] x
theorem powsF_stop {f : Int → Int} {n : Nat} {acc : List Int} {y : Int} (h : y = 0 ∨ y ∈ acc) : powsF f n acc y = acc := by
  cases n with
  | zero => rfl
  | succ n => rw [powsF, if_pos h]
theorem powsF_go {f : Int → Int} {n : Nat} {acc : List Int} {y : Int} (h0 : y ≠ 0) (h1 : y ∉ acc) (hn : 0 < n) : powsF f n acc y = powsF f (n - 1) (acc ++ [y]) (f y) := by
  cases n with
  | zero => omega
  | succ n => rw [powsF, if_neg (by rintro (h | h); exact h0 h; exact h1 h)]; rfl
/-- The places that were seen are those of the powers. -/
def Seen (q : Nat) (bs : List Bool) (acc : List Int) : Prop := bs.length = q ∧ (∀ z : Nat, z < q → (bs.getD z false = true ↔ (z : Int) ∈ acc)) ∧ acc.length + bs.count false = q
theorem seen_start {q : Nat} (hq : 2 ≤ q) : Seen q ((List.replicate q false).set 1 true) [1] := by
  refine ⟨by simp, fun z hz => ?_, ?_⟩
  · by_cases e : z = 1
    · subst e; simp [List.getD, hz]
    · simp only [List.getD, List.getElem?_set_ne (show 1 ≠ z by omega)]
      simp [hz]
      omega
  · rw [List.count_set (by simp; omega)]
    simp
    omega
theorem seen_step {q : Nat} {bs : List Bool} {acc : List Int} {y : Nat} (h : Seen q bs acc) (hy : y < q) (hn : bs.getD y false = false) : Seen q (bs.set y true) (acc ++ [(y : Int)]) := by
  obtain ⟨h1, h2, h3⟩ := h
  refine ⟨by simp [h1], fun z hz => ?_, ?_⟩
  · by_cases e : z = y
    · subst e; simp [List.getD, h1, hz]
    · have := h2 z hz
      simp only [List.getD, List.getElem?_set_ne (show y ≠ z by omega)] at this ⊢
      rw [this]
      simp
      omega
  · rw [List.count_set (by omega)]
    have hy' : bs[y]'(by omega) = false := by simpa [List.getD, List.getElem?_eq_getElem (show y < bs.length by omega)] using hn
    have hpos : 0 < bs.count false := by
      rw [List.count_pos_iff, ← hy']
      exact List.getElem_mem _
    simp [hy']
    omega
theorem seen_le {q : Nat} {bs : List Bool} {acc : List Int} {y : Nat} (h : Seen q bs acc) (hy : y < q) (hn : bs.getD y false = false) : acc.length < q := by
  obtain ⟨h1, h2, h3⟩ := h
  have hy' : bs[y]'(by omega) = false := by simpa [List.getD, List.getElem?_eq_getElem (show y < bs.length by omega)] using hn
  have hpos : 0 < bs.count false := by
    rw [List.count_pos_iff, ← hy']
    exact List.getElem_mem _
  omega
/-- The powers of x are all residues other than 0, and come back to 1. -/
def IsGen (p : Int) (m : Nat) (mod : List Int) (q : Nat) (x : Int) : Prop := (powL p m mod x).length = q - 1 ∧ mulS p m mod ((powL p m mod x).getD (q - 2) 0) x = 1
theorem powsF_pre {f : Int → Int} (n : Nat) (acc : List Int) (y : Int) : ∃ l, powsF f n acc y = acc ++ l := by
  induction n generalizing acc y with
  | zero => exact ⟨[], by simp [powsF]⟩
  | succ n ih =>
    rw [powsF]
    split
    · exact ⟨[], by simp⟩
    · obtain ⟨l, hl⟩ := ih (acc ++ [y]) (f y)
      exact ⟨y :: l, by rw [hl]; simp⟩
theorem powL_ne (p : Int) (m : Nat) (mod : List Int) (x : Int) : powL p m mod x ≠ [] := by
  unfold powL
  obtain ⟨l, hl⟩ := powsF_pre (f := fun y => mulS p m mod y x) (p ^ m).toNat [1] x
  rw [hl]; simp
/-- What holds of 1 and x, and stays under f, holds of all powers. -/
theorem powsF_all {f : Int → Int} {R : Int → Prop} (hf : ∀ y, R (f y)) (n : Nat) (acc : List Int) (y : Int) (ha : ∀ z ∈ acc, R z) (hy : R y) : ∀ z ∈ powsF f n acc y, R z := by
  induction n generalizing acc y with
  | zero => exact ha
  | succ n ih =>
    rw [powsF]
    split
    · exact ha
    · refine ih _ _ (fun z hz => ?_) (hf y)
      rcases List.mem_append.1 hz with h | h
      · exact ha z h
      · rw [List.mem_singleton.1 h]; exact hy
theorem powL_bd {p : Int} (hp : 2 ≤ p) {m : Nat} (hm : 1 ≤ m) (mod : List Int) {x : Int} (h0 : 0 ≤ x) (h1 : x < p ^ m) : ∀ z ∈ powL p m mod x, 0 ≤ z ∧ z < p ^ m := by
  have h2 : p ^ 1 ≤ p ^ m := pow_le (by omega) hm
  rw [Int.pow_one] at h2
  exact powsF_all (R := fun z => 0 ≤ z ∧ z < p ^ m) (fun y => mulS_bd (by omega) m mod y x) _ _ _ (fun z hz => by rw [List.mem_singleton.1 hz]; omega) ⟨h0, h1⟩
/-- The description's numbers are in range. -/
def ShapeP (P M : Int) (mod : List Int) : Prop := ordS P M ≠ 0 ∧ Prm P ∧ (M = 1 → mod = []) ∧ (M ≠ 1 → (mod.length : Int) = M ∧ Digs P mod)
/-- It describes a field. -/
def FieldP (P M : Int) (mod : List Int) : Prop := ShapeP P M mod ∧ ∃ x, 1 ≤ x ∧ x < ordS P M ∧ IsGen P M.toNat mod (ordS P M).toNat x
end Cw
