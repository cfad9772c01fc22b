/- The walk of the law FieldSame. No conditions. -/
import Derived.Test.YtnmidgcmlkofjaaLa
import Derived.Deep.RegionHeld3
namespace Go.Proofs.Ytnmidgcmlkofjaa
open Go.RowKit Cw

set_option maxHeartbeats 2000000 in
theorem fieldSame_law (P M : Int) (vm : Value) (mod : List Int) (P' M' : Int) (vm' : Value) (mod' : List Int) (w : World) (hvm : Sl w vm mod) (hvm' : Sl w vm' mod') :
    Calls Try.prog 6 #[.agg #[.int .i64 P, .int .i64 M, vm], .agg #[.int .i64 P', .int .i64 M', vm']] w fun e w' => e = .returned (.bool true) ∧ Kept w w' := by
  have hk0 := kept_alloc w (.cells #[.int .i64 P, .int .i64 M, vm] 24)
  have hk1 := kept_alloc (w.alloc (.cells #[.int .i64 P, .int .i64 M, vm] 24)) (.cells #[.int .i64 P', .int .i64 M', vm'] 24)
  have hk := hk0.tr hk1
  have bx0 := (boxF_new w P M vm 24).kept hk1
  have bx1 := boxF_new (w.alloc (.cells #[.int .i64 P, .int .i64 M, vm] 24)) P' M' vm' 24
  obtain ⟨r, hr⟩ : ∃ r, r = decide (P = P' ∧ M = M' ∧ mod = mod') := ⟨_, rfl⟩
  have HR : Hid (r = true ↔ P = P' ∧ M = M' ∧ mod = mod') := hid (by rw [hr]; simp)
  have HR2 : Hid (r = true ↔ P' = P ∧ M' = M ∧ mod' = mod) := hid (by rw [hr]; simp only [decide_eq_true_eq]; exact ⟨fun h => ⟨h.1.symm, h.2.1.symm, h.2.2.symm⟩, fun h => ⟨h.1.symm, h.2.1.symm, h.2.2.symm⟩⟩)
  clear hr
  have hs : (w.alloc (.cells #[.int .i64 P, .int .i64 M, vm] 24)).heap.size = w.heap.size + 1 := by simp
  rw [hs] at bx1
  go_enter Try.func6, Try.ntmps6
  go_wp2_with (go_at_call 17; refine (alive_any _).mono ?_; rintro e w1 ⟨rfl, ka⟩)
  have b1 := (bx0.kept ka).drew
  have c1 := (bx1.kept ka).drew
  have k1 := (hk.tr ka).tr (kept_drew w1)
  have s1 := hvm.kept k1
  have t1 := hvm'.kept k1
  have p1 := b1.h0
  have q1 := b1.h1
  have r1 := b1.h2
  have x1 := c1.h0
  have y1 := c1.h1
  have z1 := c1.h2
  clear hs bx0 bx1 hk0 hk1
  go_region_held3 (fun w' => w'.cell? ⟨w.heap.size, 0, none⟩ = some (.int .i64 P) ∧ w'.cell? ⟨w.heap.size, 1, none⟩ = some (.int .i64 M) ∧ w'.cell? ⟨w.heap.size, 2, none⟩ = some vm ∧ w'.cell? ⟨w.heap.size + 1, 0, none⟩ = some (.int .i64 P') ∧ w'.cell? ⟨w.heap.size + 1, 1, none⟩ = some (.int .i64 M') ∧ w'.cell? ⟨w.heap.size + 1, 2, none⟩ = some vm') (first | (simp [go_sem]; done) | (simp [*]; done))
    (first
      | (go_at_call 26; (with_reducible refine (same_any P M vm mod P' M' vm' mod' _ s1 t1 r HR.out ).mono ?_); rintro e w2 ⟨rfl, k2⟩; have s2 := s1.kept k2; have t2 := t1.kept k2; have b2 := b1.kept k2; have c2 := c1.kept k2; have p2 := b2.h0; have q2 := b2.h1; have r2 := b2.h2; have x2 := c2.h0; have y2 := c2.h1; have z2 := c2.h2)
      | (go_at_call 27; (with_reducible refine (rSame_any P M vm mod P' M' vm' mod' _ s2 t2 r HR.out ).mono ?_); rintro e w3 ⟨rfl, k3⟩; have s3 := s2.kept k3; have t3 := t2.kept k3; have b3 := b2.kept k3; have c3 := c2.kept k3; have p3 := b3.h0; have q3 := b3.h1; have r3 := b3.h2; have x3 := c3.h0; have y3 := c3.h1; have z3 := c3.h2)
      | (go_at_call 26; (with_reducible refine (same_any P M vm mod P M vm mod _ s3 s3 true (by simp) ).mono ?_); rintro e w4 ⟨rfl, k4⟩; have s4 := s3.kept k4; have t4 := t3.kept k4; have b4 := b3.kept k4; have c4 := c3.kept k4; have p4 := b4.h0; have q4 := b4.h1; have r4 := b4.h2; have x4 := c4.h0; have y4 := c4.h1; have z4 := c4.h2)
      | (go_at_call 26; (with_reducible refine (same_any P' M' vm' mod' P M vm mod _ t4 s4 r HR2.out ).mono ?_); rintro e w5 ⟨rfl, k5⟩; have s5 := s4.kept k5; have t5 := t4.kept k5; have b5 := b4.kept k5; have c5 := c4.kept k5; have p5 := b5.h0; have q5 := b5.h1; have r5 := b5.h2; have x5 := c5.h0; have y5 := c5.h1; have z5 := c5.h2)
      | (go_at_call 26; (with_reducible refine (same_any P M vm mod P' M' vm' mod' _ s5 t5 r HR.out ).mono ?_); rintro e w6 ⟨rfl, k6⟩; have s6 := s5.kept k6; have t6 := t5.kept k6; have b6 := b5.kept k6; have c6 := c5.kept k6; have p6 := b6.h0; have q6 := b6.h1; have r6 := b6.h2; have x6 := c6.h0; have y6 := c6.h1; have z6 := c6.h2))
  go_wp2_with (fail)
  go_ret
  exact ⟨ret_bool (by simp), ((((k1.tr k2).tr k3).tr k4).tr k5).tr k6⟩
end Go.Proofs.Ytnmidgcmlkofjaa
