/- The walk of the reference's Dot. Conditions: a field's description. -/
import Derived.Test.YtnmidgcmlkofjaaRg
namespace Go.Proofs.Ytnmidgcmlkofjaa
open Go.RowKit Cw

set_option maxHeartbeats 1000000 in
theorem rDot_field (G : GFd) (t : Tabs G) (P M : Int) (mod : List Int) (vm v1 v2 : Value) (l1 l2 : List Int) (w : World) (ho : Hid (Of G P M mod)) (hvm : Sl w vm mod) (hv1 : Sl w v1 l1) (hv2 : Sl w v2 l2) :
    Calls Try.prog 55 #[.agg #[.int .i64 P, .int .i64 M, vm], v1, v2] w fun e w' => e = .returned (.int .i64 (dotG G l1 l2 (min l1.length l2.length))) ∧ Kept w w' := by
  have hk0 := kept_alloc w (.cells #[.int .i64 P, .int .i64 M, vm] 24)
  have hbx := boxF_new w P M vm 24
  have hsv := hvm.kept hk0
  obtain ⟨a1, cap1, rfl, hcap1, ⟨hcm1, _⟩, hc1⟩ := hv1.kept hk0
  obtain ⟨a2, cap2, rfl, hcap2, ⟨hcm2, _⟩, hc2⟩ := hv2.kept hk0
  unfold maxLen at hcm1 hcm2
  obtain ⟨w1, hw1⟩ : ∃ w1, w1 = w.alloc (.cells #[.int .i64 P, .int .i64 M, vm] 24) := ⟨_, rfl⟩
  rw [← hw1] at hk0 hbx hsv hc1 hc2
  go_enter Try.func55, Try.ntmps55
  go_wp2_with (fail)
  rw [← hw1]
  clear hw1 hv1 hv2
  go_loopw [7, 8] (fun vs vi wr => ∃ k : Nat, k ≤ min l1.length l2.length ∧ vi = .int .i64 k ∧ vs = .int .i64 (dotG G l1 l2 k) ∧ Kept w1 wr) (fun _ vi _ => min l1.length l2.length - (intOf vi).toNat)
  case atStart => exact ⟨0, by omega, rfl, rfl, Kept.rfl' _⟩
  case round =>
    obtain ⟨k, hk, rfl, rfl, hkw⟩ := hrel
    have hbw := hbx.kept hkw
    have c0 := hbw.h0
    have c1 := hbw.h1
    have c2 := hbw.h2
    have hst : Hid (dotG G l1 l2 (k + 1) = addG G (dotG G l1 l2 k) (mulG G (l1.getD k 0) (l2.getD k 0))) := hid rfl
    obtain ⟨s, hs⟩ : ∃ s, s = dotG G l1 l2 k := ⟨_, rfl⟩
    rw [← hs] at hst ⊢
    have HS := hid hs
    clear hs
    by_cases h1 : k < l1.length
    · by_cases h2 : k < l2.length
      · obtain ⟨b1, o1, rfl, hb1, hcell1⟩ := hc1 (by intro e; rw [e] at h1; simp at h1)
        obtain ⟨b2, o2, rfl, hb2, hcell2⟩ := hc2 (by intro e; rw [e] at h2; simp at h2)
        have hb1' : b1 < wr.heap.size := Nat.lt_of_lt_of_le hb1 hkw.size
        have hb2' : b2 < wr.heap.size := Nat.lt_of_lt_of_le hb2 hkw.size
        have e1 := (Kept.cell' hkw hb1).trans (hcell1 k h1)
        have e2 := (Kept.cell' hkw hb2).trans (hcell2 k h2)
        obtain ⟨x, hx⟩ : ∃ x, x = l1.getD k 0 := ⟨_, rfl⟩
        obtain ⟨y, hy⟩ : ∃ x, x = l2.getD k 0 := ⟨_, rfl⟩
        rw [← hx] at e1 hst
        rw [← hy] at e2 hst
        have hsw := hsv.kept hkw
        have j0 : (0 : Int) ≤ (k : Int) := by omega
        have j1 : (k : Int) < (l1.length : Int) := by omega
        have j2 : (k : Int) < (l2.length : Int) := by omega
        clear hx hy hcell1 hcell2 hc1 hc2
        go_wp2_with (fail)
        go_region_held3 (fun w' => w'.cell? ⟨w.heap.size, 0, none⟩ = some (.int .i64 P) ∧ w'.cell? ⟨w.heap.size, 1, none⟩ = some (.int .i64 M) ∧ w'.cell? ⟨w.heap.size, 2, none⟩ = some vm ∧ w'.cell? ⟨b1, o1 + k, none⟩ = some (.int .i64 x) ∧ w'.cell? ⟨b2, o2 + k, none⟩ = some (.int .i64 y)) (first | (simp [go_sem]; done) | (simp [*]; done))
          (first
            | (go_at_call 21; (with_reducible refine (rMul_field G t P M mod vm x y _ ho.out (hsw.kept (kept_drew _))).mono ?_); rintro e w3 ⟨rfl, k3⟩; have kk3 := Kept.tr (a := wr) (kept_drew _) k3; have bx3 := hbw.kept kk3; have d0 := bx3.h0; have d1 := bx3.h1; have d2 := bx3.h2; have d3 := (Kept.cell' kk3 hb1').trans e1; have d4 := (Kept.cell' kk3 hb2').trans e2)
            | (go_at_call 28; (with_reducible refine (rAdd_field G t P M mod vm s (mulG G x y) _ ho.out).mono ?_); rintro e w4 ⟨rfl, k4⟩; have kk4 := kk3.tr k4; have bx4 := hbw.kept kk4; have d5 := bx4.h0; have d6 := bx4.h1; have d7 := bx4.h2; have d8 := (Kept.cell' kk4 hb1').trans e1; have d9 := (Kept.cell' kk4 hb2').trans e2))
        go_wp2_with (fail)
        go_roundw
        case rel => exact ⟨k + 1, by omega, by go_num, val_int hst.out.symm, hkw.tr kk4⟩
        case measure => simp [intOf]; omega
      · have hfin : Hid (s = dotG G l1 l2 (min l1.length l2.length)) := hid (by rw [HS.out]; congr 1; omega)
        go_wp2_with (fail)
        go_ret
        exact ⟨ret_int hfin.out, hk0.tr hkw⟩
    · have hfin : Hid (s = dotG G l1 l2 (min l1.length l2.length)) := hid (by rw [HS.out]; congr 1; omega)
      go_wp2_with (fail)
      go_ret
      exact ⟨ret_int hfin.out, hk0.tr hkw⟩
end Go.Proofs.Ytnmidgcmlkofjaa
