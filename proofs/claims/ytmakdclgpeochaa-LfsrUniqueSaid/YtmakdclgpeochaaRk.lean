/- The walk of the reference's difference. Conditions: a description of the right shape. -/
import Derived.Test.YtmakdclgpeochaaRg
import Derived.Deep.RegionHeld3
namespace Go.Proofs.Ytmakdclgpeochaa
open Go.RowKit Cw

set_option maxHeartbeats 800000 in
theorem rSub_any (P : Int) (m : Nat) (vm : Value) (x y : Int) (w : World) (hp : 2 ≤ P) (hp2 : P ≤ 256) (hm1 : 1 ≤ m) (hm : m ≤ 8) (hq0 : 0 < ordS P m) (hq : ordS P m ≤ 256) (hqm : P ^ m ≤ 256) :
    Calls Try.prog 48 #[.agg #[.int .i64 P, .int .i64 m, vm], .int .i64 x, .int .i64 y] w fun e w' => e = .returned (.int .i64 (addD P m (inn (ordS P m) x) (inn (ordS P m) (negD P m (inn (ordS P m) y))))) ∧ Kept w w' := by
  have hk0 := kept_alloc w (.cells #[.int .i64 P, .int .i64 m, vm] 24)
  have hbx := boxF_new w P m vm 24
  have HQ0 := hid hq0
  have HQ := hid hq
  have HQM := hid hqm
  clear hq0 hq hqm
  go_enter Try.func48, Try.ntmps48
  go_wp2_with (fail)
  go_region_held3 (fun w' => w'.cell? ⟨w.heap.size, 0, none⟩ = some (.int .i64 P) ∧ w'.cell? ⟨w.heap.size, 1, none⟩ = some (.int .i64 m) ∧ w'.cell? ⟨w.heap.size, 2, none⟩ = some vm) (first | (simp [go_sem]; done) | (simp [*]; done))
    (first
      | (go_at_call 64; (with_reducible refine (rNeg_any P m vm y _ hp hp2 hm1 hm HQ0.out HQ.out HQM.out).mono ?_); rintro e w1 ⟨rfl, hk1⟩; have bx1 := (hbx.drew).kept hk1; have a0 := bx1.h0; have a1 := bx1.h1; have a2 := bx1.h2)
      | (go_at_call 23; (with_reducible refine (rAdd_any P m vm x _ _ hp hp2 hm1 hm HQ0.out HQ.out HQM.out).mono ?_); rintro e w2 ⟨rfl, hk2⟩; have bx2 := bx1.kept hk2; have b0 := bx2.h0; have b1 := bx2.h1; have b2 := bx2.h2))
  go_wp2_with (fail)
  go_ret
  exact ⟨rfl, ((hk0.tr (kept_drew _)).tr hk1).tr hk2⟩
theorem rSub_field (G : GFd) (t : Tabs G) (P M : Int) (mod : List Int) (vm : Value) (x y : Int) (w : World) (ho : Of G P M mod) :
    Calls Try.prog 48 #[.agg #[.int .i64 P, .int .i64 M, vm], .int .i64 x, .int .i64 y] w fun e w' => e = .returned (.int .i64 (addG G x (negG G y))) ∧ Kept w w' := by
  obtain ⟨rfl, rfl, rfl⟩ := ho
  obtain ⟨q1, q2, q3, q4, q5, q6, q7⟩ := t.qb
  have hq := t.hq
  obtain ⟨m, hm⟩ := Int.eq_ofNat_of_zero_le (show 0 ≤ G.M by omega)
  have ht : G.M.toNat = m := by omega
  rw [ht] at q7
  have hqm : ordS G.P m = G.q := by rw [← hm]; exact hq.symm
  have h := rSub_any G.P m vm x y w q3 q4 (by omega) (by omega) (by omega) (by omega) (by omega)
  rw [← hm, ← hq] at h
  refine h.mono fun e w' ⟨h1, h2⟩ => ⟨?_, h2⟩
  rw [h1]
  unfold addG negG
  rw [ht]
end Go.Proofs.Ytmakdclgpeochaa
