/- The reference's sum, negative and product at a field's description: those of its tables. No conditions beyond that. -/
import Derived.Test.YtmakdclgpeochaaRe
import Derived.Test.YtmakdclgpeochaaRf
namespace Go.Proofs.Ytmakdclgpeochaa
open Go.RowKit Cw

/-- The description is that of the field. -/
def Of (G : GFd) (P M : Int) (mod : List Int) : Prop := G.P = P ∧ G.M = M ∧ G.mod = mod

theorem rAdd_field (G : GFd) (t : Tabs G) (P M : Int) (mod : List Int) (vm : Value) (x y : Int) (w : World) (ho : Of G P M mod) :
    Calls Try.prog 23 #[.agg #[.int .i64 P, .int .i64 M, vm], .int .i64 x, .int .i64 y] w fun e w' => e = .returned (.int .i64 (addG G x y)) ∧ Kept w w' := by
  obtain ⟨rfl, rfl, rfl⟩ := ho
  obtain ⟨q1, q2, q3, q4, q5, q6, q7⟩ := t.qb
  have hq := t.hq
  obtain ⟨m, hm⟩ := Int.eq_ofNat_of_zero_le (show 0 ≤ G.M by omega)
  have ht : G.M.toNat = m := by omega
  rw [ht] at q7
  have hqm : ordS G.P m = G.q := by rw [← hm]; exact hq.symm
  have h := rAdd_any G.P m vm x y w q3 q4 (by omega) (by omega) (by omega) (by omega) (by omega)
  rw [← hm, ← hq] at h
  refine h.mono fun e w' ⟨h1, h2⟩ => ⟨?_, h2⟩
  rw [h1]
  unfold addG
  rw [ht]
theorem rNeg_field (G : GFd) (t : Tabs G) (P M : Int) (mod : List Int) (vm : Value) (x : Int) (w : World) (ho : Of G P M mod) :
    Calls Try.prog 64 #[.agg #[.int .i64 P, .int .i64 M, vm], .int .i64 x] w fun e w' => e = .returned (.int .i64 (negG G x)) ∧ Kept w w' := by
  obtain ⟨rfl, rfl, rfl⟩ := ho
  obtain ⟨q1, q2, q3, q4, q5, q6, q7⟩ := t.qb
  have hq := t.hq
  obtain ⟨m, hm⟩ := Int.eq_ofNat_of_zero_le (show 0 ≤ G.M by omega)
  have ht : G.M.toNat = m := by omega
  rw [ht] at q7
  have hqm : ordS G.P m = G.q := by rw [← hm]; exact hq.symm
  have h := rNeg_any G.P m vm x w q3 q4 (by omega) (by omega) (by omega) (by omega) (by omega)
  rw [← hm, ← hq] at h
  refine h.mono fun e w' ⟨h1, h2⟩ => ⟨?_, h2⟩
  rw [h1]
  unfold negG
  rw [ht]
theorem rMul_field (G : GFd) (t : Tabs G) (P M : Int) (mod : List Int) (vm : Value) (x y : Int) (w : World) (ho : Of G P M mod) (hvm : Sl w vm mod) :
    Calls Try.prog 24 #[.agg #[.int .i64 P, .int .i64 M, vm], .int .i64 x, .int .i64 y] w fun e w' => e = .returned (.int .i64 (mulG G x y)) ∧ Kept w w' := by
  obtain ⟨rfl, rfl, rfl⟩ := ho
  obtain ⟨q1, q2, q3, q4, q5, q6, q7⟩ := t.qb
  have hq := t.hq
  obtain ⟨m, hm⟩ := Int.eq_ofNat_of_zero_le (show 0 ≤ G.M by omega)
  have ht : G.M.toNat = m := by omega
  rw [ht] at q7
  have hqm : ordS G.P m = G.q := by rw [← hm]; exact hq.symm
  have hsh := t.shape
  have hml : 1 < m → G.mod.length = m := fun h => by have := (hsh.2.2.2 (by omega)).1; omega
  have hmd : Digs G.P G.mod := by
    by_cases e : m = 1
    · have := hsh.2.2.1 (by omega)
      rw [this]
      intro x hx; cases hx
    · exact (hsh.2.2.2 (by omega)).2
  have h := rMul_any G.P m vm G.mod x y w hvm q3 q4 (by omega) (by omega) (by omega) (by omega) (by omega) hml hmd
  rw [← hm, ← hq] at h
  refine h.mono fun e w' ⟨h1, h2⟩ => ⟨?_, h2⟩
  have hr := t.fs.rMul_mulS (inn G.q x) (inn G.q y)
  have hm2 : t.fs.m = m := ht
  have hP2 : t.fs.P = G.P := rfl
  have hmo : t.fs.mod = G.mod := rfl
  rw [hm2, hP2, hmo] at hr
  rw [h1, hr, t.mul_mulS, ht]
end Go.Proofs.Ytmakdclgpeochaa
