/- The walk of Check. No conditions. -/
import Derived.Test.YtnmidgcmlkofjaaFf
import Derived.Deep.RegionHeld3
import Derived.Lib.QuietBelow
import Derived.BigQuiet
namespace Go.Proofs.Ytnmidgcmlkofjaa
open Go.RowKit Go.Sort Cw

set_option maxHeartbeats 800000 in
theorem check_noShape (P M : Int) (vm : Value) (mod : List Int) (w : World) (hvm : Sl w vm mod) (hs : ¬ ShapeP P M mod) :
    Calls Try.prog 49 #[.agg #[.int .i64 P, .int .i64 M, vm]] w fun e w' => e = .returned (.int .i64 1) ∧ Kept w w' := by
  have hk0 := kept_alloc w (.cells #[.int .i64 P, .int .i64 M, vm] 24)
  have hbx := boxF_new w P M vm 24
  have hv1 := hvm.kept hk0
  have HF : Hid (false = true ↔ ShapeP P M mod) := hid (by simp [hs])
  clear hs
  obtain ⟨w0, hw0⟩ : ∃ w0, w0 = w.alloc (.cells #[.int .i64 P, .int .i64 M, vm] 24) := ⟨_, rfl⟩
  rw [← hw0] at hk0 hbx hv1
  have c0 := cell_regrown hbx.h0
  have c1 := cell_regrown hbx.h1
  have c2 := cell_regrown hbx.h2
  have cS : ∀ d os, Calls Try.prog 65 #[.agg #[.int .i64 P, .int .i64 M, vm]] (grow (redrawn w0 d) os) fun e w'' => e = .returned (.bool false) ∧ ∃ p : Regrown, w'' = grow (redrawn w0 p.d) p.os := fun d os => Calls.regrown_of (shape_any P M vm mod _ (hv1.kept (below_regrown w0 d os)) false HF.out)
  go_enter Try.func49, Try.ntmps49
  go_wp2_with (fail)
  rw [← hw0]
  clear hw0 hbx
  refine wp_region_quiet_below (by kernel_rfl) (by kernel_rfl) ?_
  repeat (first | go_big_quiet_step (exact cS _ _) | quiet_step (exact cS _ _))
  refine wpQuiet_nil ?_
  intro _ hw'
  obtain ⟨⟨dq, osq⟩, hw''⟩ := hw'
  subst hw''
  go_wp2_with (fail)
  go_ret
  exact ⟨rfl, hk0.tr (below_regrown w0 dq osq)⟩

set_option maxHeartbeats 1000000 in
theorem check_shape (P M : Int) (vm : Value) (mod : List Int) (w : World) (hvm : Sl w vm mod) (hs : ShapeP P M mod) (r : Int) (hr : (FieldP P M mod ∧ r = 0) ∨ (¬ FieldP P M mod ∧ r = 1)) :
    Calls Try.prog 49 #[.agg #[.int .i64 P, .int .i64 M, vm]] w fun e w' => e = .returned (.int .i64 r) ∧ Kept w w' := by
  have hk0 := kept_alloc w (.cells #[.int .i64 P, .int .i64 M, vm] 24)
  have hv1 := hvm.kept hk0
  have hbx := boxF_new w P M vm 24
  obtain ⟨o1, o2, o3, o4, o5, o6⟩ := ordS_pos hs.1
  obtain ⟨m, rfl⟩ := Int.eq_ofNat_of_zero_le (show 0 ≤ M by omega)
  have hm : (m : Int).toNat = m := by omega
  rw [hm] at o5 o6
  have h1 : 1 ≤ P ^ m := Int.pow_pos (by omega)
  obtain ⟨q, hq⟩ := Int.eq_ofNat_of_zero_le (show 0 ≤ P ^ m by omega)
  have HO : Hid (ordS P m = q) := hid (by rw [o6, hq])
  have Hq := hid hq
  have hq2 : q ≤ 256 := by omega
  have hml : 1 < m → mod.length = m := fun h => by have := (hs.2.2.2 (by omega)).1; omega
  have hmd : Digs P mod := by
    by_cases e : m = 1
    · have := hs.2.2.1 (by omega)
      subst this
      intro x hx; cases hx
    · exact (hs.2.2.2 (by omega)).2
  have HS := hid hs
  have HY : Hid (∀ x, 1 ≤ x → x < (q : Int) → IsGen P m mod q x → r = 0) := hid (fun x g1 g2 g3 => by
    rcases hr with ⟨_, h⟩ | ⟨h, _⟩
    · exact h
    · exact absurd ⟨hs, x, g1, by rw [HO.out]; exact g2, by rw [HO.out]; simpa using g3⟩ h)
  have HNN : Hid ((∀ x, 1 ≤ x → x < (q : Int) → ¬ IsGen P m mod q x) → r = 1) := hid (fun hno => by
    rcases hr with ⟨h, _⟩ | ⟨_, h⟩
    · obtain ⟨_, x, g1, g2, g3⟩ := h
      rw [HO.out] at g2 g3
      exact absurd (by simpa using g3) (hno x g1 g2)
    · exact h)
  clear hs hq h1 o5 o6 hm hr
  go_enter Try.func49, Try.ntmps49
  go_wp2_with (fail)
  refine Classical.byCases (p := ∃ x, 1 ≤ x ∧ x < (q : Int) ∧ IsGen P m mod q x) (fun hex => ?_) (fun hno => ?_)
  · obtain ⟨x, x1, x2, x3⟩ := hex
    have HR := hid (HY.out x x1 x2 x3)
    have HX : Hid (∃ x, 1 ≤ x ∧ x < (q : Int) ∧ IsGen P m mod q x) := hid ⟨x, x1, x2, x3⟩
    clear x1 x2 x3
    go_region_held3 (fun w' => w'.cell? ⟨w.heap.size, 0, none⟩ = some (.int .i64 P) ∧ w'.cell? ⟨w.heap.size, 1, none⟩ = some (.int .i64 m) ∧ w'.cell? ⟨w.heap.size, 2, none⟩ = some vm) (first | (simp [go_sem]; done) | (simp [*]; done))
      (first
        | (go_at_call 65; (with_reducible refine (shape_any P m vm mod _ (hv1.kept (kept_drew _)) true ⟨fun _ => HS.out, fun _ => rfl⟩).mono ?_); rintro e w1 ⟨rfl, hk1⟩; have bx1 := (hbx.kept (kept_drew _)).kept hk1; have c0 := bx1.h0; have c1 := bx1.h1; have c2 := bx1.h2)
        | (go_at_call 66; (with_reducible refine (order_any P m _).mono ?_); rintro e w2 ⟨rfl, n2, rfl⟩; rw [HO.out])
        | (go_at_call 67; (with_reducible refine (generator_any P m vm mod q _ (((hv1.kept (kept_drew _)).kept hk1).kept (kept_drewN _ _)) o1 o2 (by omega) (by omega) Hq.out hq2 hml hmd).mono ?_); rintro e w3 ⟨hk3, (⟨g, v, g1, g2, g3, rfl, ho⟩ | ⟨hno, _⟩)⟩; rotate_left; (exact absurd HX.out (fun ⟨x, g1, g2, g3⟩ => hno x g1 g2 g3)); rcases ho.form with ⟨_, hnil⟩ | ⟨ge, cap, rfl, hg1, hg2, hg3, hg4⟩; (exact absurd hnil (powL_ne _ _ _ _)); have bx3 := (bx1.drewN n2).kept hk3; have d0 := bx3.h0; have d1 := bx3.h1; have d2 := bx3.h2))
    go_wp2_with (fail)
    go_ret
    exact ⟨ret_int HR.out.symm, (hk0.tr (kept_drew _)).tr (hk1.tr (Kept.tr (kept_drewN _ _) hk3))⟩
  · have HR := hid (HNN.out (fun x g1 g2 g3 => hno ⟨x, g1, g2, g3⟩))
    have HX := hid hno
    clear hno
    go_region_held3 (fun w' => w'.cell? ⟨w.heap.size, 0, none⟩ = some (.int .i64 P) ∧ w'.cell? ⟨w.heap.size, 1, none⟩ = some (.int .i64 m) ∧ w'.cell? ⟨w.heap.size, 2, none⟩ = some vm) (first | (simp [go_sem]; done) | (simp [*]; done))
      (first
        | (go_at_call 65; (with_reducible refine (shape_any P m vm mod _ (hv1.kept (kept_drew _)) true ⟨fun _ => HS.out, fun _ => rfl⟩).mono ?_); rintro e w1 ⟨rfl, hk1⟩; have bx1 := (hbx.kept (kept_drew _)).kept hk1; have c0 := bx1.h0; have c1 := bx1.h1; have c2 := bx1.h2)
        | (go_at_call 66; (with_reducible refine (order_any P m _).mono ?_); rintro e w2 ⟨rfl, n2, rfl⟩; rw [HO.out])
        | (go_at_call 67; (with_reducible refine (generator_any P m vm mod q _ (((hv1.kept (kept_drew _)).kept hk1).kept (kept_drewN _ _)) o1 o2 (by omega) (by omega) Hq.out hq2 hml hmd).mono ?_); rintro e w3 ⟨hk3, (⟨g, v, g1, g2, g3, _⟩ | ⟨_, rfl⟩)⟩; (exact absurd ⟨g, g1, g2, g3⟩ HX.out); have bx3 := (bx1.drewN n2).kept hk3; have d0 := bx3.h0; have d1 := bx3.h1; have d2 := bx3.h2))
    go_wp2_with (fail)
    go_ret
    exact ⟨ret_int HR.out.symm, (hk0.tr (kept_drew _)).tr (hk1.tr (Kept.tr (kept_drewN _ _) hk3))⟩

theorem check_any (P M : Int) (vm : Value) (mod : List Int) (w : World) (hvm : Sl w vm mod) (r : Int) (hr : (FieldP P M mod ∧ r = 0) ∨ (¬ FieldP P M mod ∧ r = 1)) :
    Calls Try.prog 49 #[.agg #[.int .i64 P, .int .i64 M, vm]] w fun e w' => e = .returned (.int .i64 r) ∧ Kept w w' := by
  by_cases hs : ShapeP P M mod
  · exact check_shape P M vm mod w hvm hs r hr
  · rcases hr with ⟨h, _⟩ | ⟨_, rfl⟩
    · exact absurd h.1 hs
    · exact check_noShape P M vm mod w hvm hs
end Go.Proofs.Ytnmidgcmlkofjaa
