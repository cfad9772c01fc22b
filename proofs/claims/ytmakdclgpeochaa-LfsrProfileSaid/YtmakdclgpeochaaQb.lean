/- The walks of the reference's Degree, At, Add, Scale and Sub. Conditions: a field's description; lengths are bounded. -/
import Derived.Test.YtmakdclgpeochaaQa
import Derived.Test.YtmakdclgpeochaaKf
import Derived.Test.YtmakdclgpeochaaKw
import Derived.WalkLawsBesides
namespace Go.Proofs.Ytmakdclgpeochaa
open Go.RowKit Cw

theorem rCanon_p (G : GFd) (t : Tabs G) (P M : Int) (mod : List Int) (vm : Value) (v : Value) (p : List Int) (w : World) (ho : Hid (Of G P M mod)) (hv : Sl w v p) (hl : p.length ≤ 1000000) :
    Calls Try.prog 20 #[.agg #[.int .i64 P, .int .i64 M, vm], v] w (OutP G t (t.pl p) w) :=
  (rCanon_any G t P M mod vm v p w ho hv hl).mono fun _ _ h => h.p rfl
theorem rDegree_p (G : GFd) (t : Tabs G) (P M : Int) (mod : List Int) (vm : Value) (v : Value) (p : List Int) (w : World) (ho : Hid (Of G P M mod)) (hv : Sl w v p) (hl : p.length ≤ 1000000) :
    Calls Try.prog 47 #[.agg #[.int .i64 P, .int .i64 M, vm], v] w fun e w' => e = .returned (.int .i64 (((t.pl p).ln : Int) - 1)) ∧ Kept w w' := by
  have hk0 := kept_alloc w (.cells #[.int .i64 P, .int .i64 M, vm] 24)
  go_enter Try.func47, Try.ntmps47
  go_wp2_with (fail)
  refine (rCanon_p G t P M mod vm v p _ ho (hv.kept hk0) hl).mono ?_
  rintro e w1 ⟨v1, l1, rfl, o1, k1, c1, p1⟩
  obtain ⟨a1, cp1, rfl, h1, h2⟩ := o1.sh
  have P1 := hid p1
  have hl1 : l1.length ≤ 1000000 := by have := t.can_ln' c1 p1; have := t.pl_ln_le p; omega
  clear p1
  go_wp2_with (fail)
  go_ret
  exact ⟨ret_int (by rw [t.can_ln' c1 P1.out]), hk0.tr k1⟩
set_option maxRecDepth 100000 in
set_option maxHeartbeats 1000000 in
theorem rAt_p (G : GFd) (t : Tabs G) (P M : Int) (mod : List Int) (vm : Value) (v : Value) (p : List Int) (i : Nat) (w : World) (ho : Hid (Of G P M mod)) (hv : Sl w v p) (hi : i ≤ 1000000) :
    Calls Try.prog 22 #[.agg #[.int .i64 P, .int .i64 M, vm], v, .int .i64 i] w fun e w' => e = .returned (.int .i64 (inn G.q (p.getD i 0))) ∧ Kept w w' := by
  have hk0 := kept_alloc w (.cells #[.int .i64 P, .int .i64 M, vm] 24)
  have hbx := boxF_new w P M vm 24
  obtain ⟨a, cap, rfl, hcap, ⟨hcm, _⟩, hc⟩ := hv.kept hk0
  unfold maxLen at hcm
  have q0 : 0 < G.q := by have := t.qb; omega
  have i0 : (0 : Int) ≤ (i : Int) := by omega
  have ti : decide ((i : Int) < 0) = false := by simp
  by_cases hlt : i < p.length
  · obtain ⟨bp, off, rfl, hbp, hcell⟩ := hc (by intro e; rw [e] at hlt; simp at hlt)
    have hck := hcell i hlt
    obtain ⟨w1, hw1⟩ : ∃ w1, w1 = w.alloc (.cells #[.int .i64 P, .int .i64 M, vm] 24) := ⟨_, rfl⟩
    rw [← hw1] at hk0 hbx hck hbp
    obtain ⟨z, hz⟩ : ∃ z, z = p.getD i 0 := ⟨_, rfl⟩
    rw [← hz] at hck ⊢
    have HQ : Hid (inn (ordS P M) z = inn G.q z) := hid (by rw [← ho.out.1, ← ho.out.2.1, ← t.hq])
    have hki : (i : Int) < (p.length : Int) := by omega
    have hbw := hbx
    have c0 := hbx.h0
    have c1 := hbx.h1
    have c2 := hbx.h2
    clear hz hcell hc q0
    go_enter Try.func22, Try.ntmps22
    go_wp2_with (fail)
    rw [← hw1]
    clear hw1
    have hkc := Kept.rfl' w1
    go_region_held3 (fun w' => w'.cell? ⟨w.heap.size, 0, none⟩ = some (.int .i64 P) ∧ w'.cell? ⟨w.heap.size, 1, none⟩ = some (.int .i64 M) ∧ w'.cell? ⟨w.heap.size, 2, none⟩ = some vm ∧ w'.cell? ⟨bp, off + i, none⟩ = some (.int .i64 z)) (first | (simp [go_sem]; done) | (simp [*]; done))
      (first
        | (go_at_call 25; (with_reducible refine (rIn_any P M vm z _).mono ?_); rintro e wx ⟨rfl, kx⟩; rw [HQ.out]; have hkn := Kept.tr (b := _) (by first | exact hkc | exact hkc.tr (kept_drew _) | exact hkc.tr (kept_drewN _ _)) kx; clear hkc kx; have hkc := hkn; clear hkn; have bxx := hbw.kept hkc; have d0 := bxx.h0; have d1 := bxx.h1; have d2 := bxx.h2; have d3 := (Kept.cell' hkc hbp).trans hck))
    go_wp2_with (fail)
    go_ret
    exact ⟨rfl, hk0.tr hkc⟩
  · have hge : (p.length : Int) ≤ (i : Int) := by omega
    have e : Hid (inn G.q (p.getD i 0) = 0) := hid (by rw [ld_out (by omega)]; exact inn_yes ⟨by omega, q0⟩)
    rw [e.out]
    clear hlt hc q0
    go_enter Try.func22, Try.ntmps22
    go_wp2_with (fail)
    go_ret
    exact ⟨rfl, hk0⟩
end Go.Proofs.Ytmakdclgpeochaa
