/- The chapter's two examples, in plain terms. -/
import Derived.Test.YtnmidgcmlkofjaaSpe
namespace Cw

instance (p : Int) (m : Nat) (mod : List Int) (q : Nat) (x : Int) : Decidable (IsGen p m mod q x) := by unfold IsGen; exact inferInstance

theorem prm2 : Prm 2 := ⟨by omega, fun d h1 h2 => by omega⟩
theorem prm3 : Prm 3 := ⟨by omega, fun d h1 h2 => by obtain rfl : d = 2 := by omega
                                                     decide⟩
theorem field4 : FieldP 2 2 [1, 1] := ⟨⟨by decide, prm2, fun h => by omega, fun _ => ⟨rfl, fun x hx => by simp at hx; omega⟩⟩, 2, by omega, by decide, by decide +kernel⟩
theorem field9 : FieldP 3 2 [1, 0] := ⟨⟨by decide, prm3, fun h => by omega, fun _ => ⟨rfl, fun x hx => by simp at hx; omega⟩⟩, 4, by omega, by decide, by decide +kernel⟩

theorem mulG_by {G : GFd} (ht : Tabs G) {a b c : Int} (ha : 1 ≤ a ∧ a < G.q) (hb : 1 ≤ b ∧ b < G.q)
    (h : ∀ x, 1 ≤ x → x < G.q → IsGen G.P G.M.toNat G.mod G.q.toNat x → ∀ i j : Nat, i < G.q.toNat - 1 → j < G.q.toNat - 1 → (powL G.P G.M.toNat G.mod x).getD i 0 = a → (powL G.P G.M.toNat G.mod x).getD j 0 = b → (powL G.P G.M.toNat G.mod x).getD ((i + j) % (G.q.toNat - 1)) 0 = c) :
    mulG G a b = c := by
  obtain ⟨x, h1, h2, h3, h4⟩ := ht.gen
  obtain ⟨i, i1, i2, i3⟩ := ht.logOf ha.1 ha.2
  obtain ⟨j, j1, j2, j3⟩ := ht.logOf hb.1 hb.2
  have e := ht.elen
  rw [h4] at i2 j2
  have := h x h1 h2 h3 i j (by omega) (by omega) i2 j2
  unfold mulG
  rw [inn_yes ⟨by omega, ha.2⟩, inn_yes ⟨by omega, hb.2⟩, if_neg (by omega)]
  unfold expG logG
  rw [i3, j3, h4]
  have e2 : (((i : Int) + (j : Int)) % (G.q - 1)).toNat = (i + j) % (G.q.toNat - 1) := by
    have : G.q - 1 = ((G.q.toNat - 1 : Nat) : Int) := by omega
    rw [this, ← Int.natCast_add, ← Int.natCast_emod, Int.toNat_natCast]
  rw [e2]
  exact this

theorem alive4 {G : GFd} (ht : Tabs G) (h1 : G.P = 2) (h2 : G.M = 2) (h3 : G.mod = [1, 1]) : addG G 2 3 = 1 ∧ mulG G 2 2 = 3 ∧ mulG G 2 3 = 1 := by
  have hq : G.q = 4 := by rw [ht.hq, h1, h2]; decide
  refine ⟨?_, mulG_by ht (by omega) (by omega) ?_, mulG_by ht (by omega) (by omega) ?_⟩
  · unfold addG; rw [h1, h2, hq]; decide
  · rw [h1, h2, h3, hq]
    intro x g1 g2
    have k : ∀ y : Fin 4, IsGen 2 2 [1, 1] 4 (y.val : Int) → ∀ i j : Fin 3, (powL 2 2 [1, 1] (y.val : Int)).getD i.val 0 = 2 → (powL 2 2 [1, 1] (y.val : Int)).getD j.val 0 = 2 → (powL 2 2 [1, 1] (y.val : Int)).getD ((i.val + j.val) % 3) 0 = 3 := by decide +kernel
    intro g3 i j hi hj
    have := k ⟨x.toNat, by omega⟩
    rw [show ((⟨x.toNat, by omega⟩ : Fin 4).val : Int) = x by simp; omega] at this
    exact this g3 ⟨i, hi⟩ ⟨j, hj⟩
  · rw [h1, h2, h3, hq]
    intro x g1 g2
    have k : ∀ y : Fin 4, IsGen 2 2 [1, 1] 4 (y.val : Int) → ∀ i j : Fin 3, (powL 2 2 [1, 1] (y.val : Int)).getD i.val 0 = 2 → (powL 2 2 [1, 1] (y.val : Int)).getD j.val 0 = 3 → (powL 2 2 [1, 1] (y.val : Int)).getD ((i.val + j.val) % 3) 0 = 1 := by decide +kernel
    intro g3 i j hi hj
    have := k ⟨x.toNat, by omega⟩
    rw [show ((⟨x.toNat, by omega⟩ : Fin 4).val : Int) = x by simp; omega] at this
    exact this g3 ⟨i, hi⟩ ⟨j, hj⟩

theorem alive9 {G : GFd} (ht : Tabs G) (h1 : G.P = 3) (h2 : G.M = 2) (h3 : G.mod = [1, 0]) : mulG G 3 3 = 2 := by
  have hq : G.q = 9 := by rw [ht.hq, h1, h2]; decide
  refine mulG_by ht (by omega) (by omega) ?_
  rw [h1, h2, h3, hq]
  intro x g1 g2
  have k : ∀ y : Fin 9, IsGen 3 2 [1, 0] 9 (y.val : Int) → ∀ i j : Fin 8, (powL 3 2 [1, 0] (y.val : Int)).getD i.val 0 = 3 → (powL 3 2 [1, 0] (y.val : Int)).getD j.val 0 = 3 → (powL 3 2 [1, 0] (y.val : Int)).getD ((i.val + j.val) % 8) 0 = 2 := by decide +kernel
  intro g3 i j hi hj
  have := k ⟨x.toNat, by omega⟩
  rw [show ((⟨x.toNat, by omega⟩ : Fin 9).val : Int) = x by simp; omega] at this
  exact this g3 ⟨i, hi⟩ ⟨j, hj⟩
end Cw
