/- The walk of the reference's Roots of polynomials. Conditions: a field's description; lengths are bounded. -/
import Derived.Test.YtjoednmoginhpaaQe
import Derived.Test.YtjoednmoginhpaaKl
namespace Go.Proofs.Ytjoednmoginhpaa
open Go.RowKit Cw

set_option maxRecDepth 100000 in
set_option maxHeartbeats 4000000 in
theorem rRoots_p (G : GFd) (t : Tabs G) (P M : Int) (mod : List Int) (vm : Value) (vp : Value) (p : List Int) (w : World) (ho : Hid (Of G P M mod)) (hvm : Sl w vm mod) (hvp : Sl w vp p) (hlp : p.length ≤ 1000000) :
    Calls Try.prog 58 #[.agg #[.int .i64 P, .int .i64 M, vm], vp] w fun e w' => ∃ v, e = .returned v ∧ Own w' w.heap.size v (rtL G p (upTo G.q.toNat)) ∧ Kept w w' := by
  have hk0 := kept_alloc w (.cells #[.int .i64 P, .int .i64 M, vm] 24)
  have hbx := boxF_new w P M vm 24
  have smv := hvm.kept hk0
  have svp := hvp.kept hk0
  have HZ1 : (w.alloc (.cells #[.int .i64 P, .int .i64 M, vm] 24)).heap.size = w.heap.size + 1 := by simp
  have HZ1 := hid HZ1
  obtain ⟨w1, hw1⟩ : ∃ w1, w1 = w.alloc (.cells #[.int .i64 P, .int .i64 M, vm] 24) := ⟨_, rfl⟩
  rw [← hw1] at hk0 hbx smv HZ1 svp
  obtain ⟨q1, q2, -⟩ := t.qb
  have HQ : Hid (ordS P M = G.q) := hid (by rw [← ho.out.1, ← ho.out.2.1, ← t.hq])
  go_enter Try.func58, Try.ntmps58
  go_wp2_with (fail)
  rw [← hw1]
  clear hw1
  go_loopw [5, 6] (fun vo vi wr => ∃ k : Nat, (k : Int) ≤ G.q ∧ vi = .int .i64 k ∧ Own wr (w.heap.size + 1) vo (rtL G p (upTo k)) ∧ Kept w1 wr) (fun _ vi _ => (G.q - intOf vi).toNat)
  case atStart => exact ⟨0, by omega, rfl, own_nil _ _, Kept.rfl' _⟩
  case round =>
    obtain ⟨k, hk, rfl, oo, hkw⟩ := hrel
    have hbw := hbx.kept hkw
    have c0 := hbw.h0
    have c1 := hbw.h1
    have c2 := hbw.h2
    have smw := smv.kept hkw
    have spw := svp.kept hkw
    have hkc := Kept.rfl' wr
    by_cases hlt : (k : Int) < G.q
    · obtain ⟨y, hy⟩ : ∃ y, y = evL G p k := ⟨_, rfl⟩
      have HY : Hid (evL G p k = y) := hid hy.symm
      have hln : (rtL G p (upTo k)).length + 1 ≤ 1000000 := by have h1 : (rtL G p (upTo k)).length ≤ (upTo k).length := List.length_filter_le _ _; rw [upTo_len] at h1; omega
      by_cases h0 : y = 0
      · subst h0
        have hh : Hid (rtL G p (upTo (k + 1)) = rtL G p (upTo k) ++ [(k : Int)]) := hid (by rw [upTo_succ, rtL_hit G p _ hy.symm])
        clear hy
        go_wp2_with (first
          | (go_at_call 83; (with_reducible refine (rOrder_any P M vm _).mono ?_); rintro e wx ⟨rfl, kx⟩; rw [HQ.out]; have hkn := Kept.tr (b := _) (by first | exact hkc | exact hkc.tr (kept_drew _) | exact hkc.tr (kept_drewN _ _)) kx; clear hkc kx; have hkc := hkn; clear hkn; have bxx := hbw.kept hkc; have d0 := bxx.h0; have d1 := bxx.h1; have d2 := bxx.h2)
          | (go_at_call 45; (with_reducible refine (rEval_p G t P M mod vm _ p k _ ho (smw.kept (by first | exact hkc | exact hkc.tr (kept_drew _) | exact hkc.tr (kept_drewN _ _))) (spw.kept (by first | exact hkc | exact hkc.tr (kept_drew _) | exact hkc.tr (kept_drewN _ _))) hlp).mono ?_); rintro e wx ⟨rfl, kx⟩; rw [HY.out]; have hkn := Kept.tr (b := _) (by first | exact hkc | exact hkc.tr (kept_drew _) | exact hkc.tr (kept_drewN _ _)) kx; clear hkc kx; have hkc := hkn; clear hkn; have bxx := hbw.kept hkc; have d0 := bxx.h0; have d1 := bxx.h1; have d2 := bxx.h2; have oo' := oo.kept hkc)
          | (at_builtin; (refine wpList_append_one rfl (.tmp 18) (.tmp 20) rfl (w.heap.size + 1) _ (rtL G p (upTo k)) rfl (oo'.kept (kept_alloc _ _)) ⟨wx.heap.size, 0, none⟩ k rfl (cell_new rfl) hln (by have := HZ1.out; have := (hkw.tr hkc).size; simp; omega) ?_); intro v5 w5 o5 gr5; have hb5 := below_append ((hkw.tr hkc).tr (kept_alloc _ _)) (by have := (hkw.tr hkc).size; simp; omega) (oo'.kept (kept_alloc _ _)) (Nat.le_of_eq HZ1.out) gr5))
        go_roundw
        case rel => exact ⟨k + 1, by omega, by go_num, by rw [hh.out]; exact o5, hb5⟩
        case measure => simp [intOf]; omega
      · have hh : Hid (rtL G p (upTo (k + 1)) = rtL G p (upTo k)) := hid (by rw [upTo_succ, rtL_miss G p _ (by rw [← hy]; exact h0)])
        have ty : (y == 0) = false := by simpa using h0
        clear hy
        go_wp2_with (first
          | (go_at_call 83; (with_reducible refine (rOrder_any P M vm _).mono ?_); rintro e wx ⟨rfl, kx⟩; rw [HQ.out]; have hkn := Kept.tr (b := _) (by first | exact hkc | exact hkc.tr (kept_drew _) | exact hkc.tr (kept_drewN _ _)) kx; clear hkc kx; have hkc := hkn; clear hkn; have bxx := hbw.kept hkc; have d0 := bxx.h0; have d1 := bxx.h1; have d2 := bxx.h2)
          | (go_at_call 45; (with_reducible refine (rEval_p G t P M mod vm _ p k _ ho (smw.kept (by first | exact hkc | exact hkc.tr (kept_drew _) | exact hkc.tr (kept_drewN _ _))) (spw.kept (by first | exact hkc | exact hkc.tr (kept_drew _) | exact hkc.tr (kept_drewN _ _))) hlp).mono ?_); rintro e wx ⟨rfl, kx⟩; rw [HY.out]; have hkn := Kept.tr (b := _) (by first | exact hkc | exact hkc.tr (kept_drew _) | exact hkc.tr (kept_drewN _ _)) kx; clear hkc kx; have hkc := hkn; clear hkn; have bxx := hbw.kept hkc; have d0 := bxx.h0; have d1 := bxx.h1; have d2 := bxx.h2; have oo' := oo.kept hkc))
        go_roundw
        case rel => exact ⟨k + 1, by omega, by go_num, by rw [hh.out]; exact oo', hkw.tr hkc⟩
        case measure => simp [intOf]; omega
    · obtain rfl : k = G.q.toNat := by omega
      have hge : G.q ≤ (G.q.toNat : Int) := by omega
      have OO := oo
      clear hlt
      go_wp2_with (go_at_call 83; (with_reducible refine (rOrder_any P M vm _).mono ?_); rintro e wx ⟨rfl, kx⟩; rw [HQ.out]; have hkn := Kept.tr (b := _) (by first | exact hkc | exact hkc.tr (kept_drew _) | exact hkc.tr (kept_drewN _ _)) kx; clear hkc kx; have hkc := hkn; clear hkn; have bxx := hbw.kept hkc; have d0 := bxx.h0; have d1 := bxx.h1; have d2 := bxx.h2)
      go_ret
      exact ⟨_, rfl, (OO.kept hkc).mono (by omega), hk0.tr (hkw.tr hkc)⟩
end Go.Proofs.Ytjoednmoginhpaa
