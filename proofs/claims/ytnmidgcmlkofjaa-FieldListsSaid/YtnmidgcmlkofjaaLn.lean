/- The walk of the law FieldLists. No conditions. -/
import Derived.Test.YtnmidgcmlkofjaaLc
import Derived.Test.YtnmidgcmlkofjaaRi
import Derived.Test.YtnmidgcmlkofjaaGd
import Derived.Deep.RegionHeld3
namespace Go.Proofs.Ytnmidgcmlkofjaa
open Go.RowKit Cw

theorem dotG_comm {G : GFd} (t : Tabs G) (a b : List Int) (k : Nat) : dotG G a b k = dotG G b a k := by
  induction k with
  | zero => rfl
  | succ k ih => rw [dotG, dotG, ih, t.mul_comm]
theorem getD_map' (f : Int → Int) (l : List Int) {k : Nat} (h : k < l.length) : (l.map f).getD k 0 = f (l.getD k 0) := by simp [List.getD, h]

set_option maxHeartbeats 2000000 in
theorem fieldLists_law (P M : Int) (vm : Value) (mod : List Int) (a : Int) (v1 v2 : Value) (l1 l2 : List Int) (w : World) (hvm : Sl w vm mod) (hv1 : Sl w v1 l1) (hv2 : Sl w v2 l2) :
    Calls Try.prog 15 #[.agg #[.int .i64 P, .int .i64 M, vm], .int .i64 a, .agg #[v1, v2]] w fun e w' => e = .returned (.bool true) ∧ Kept w w' := by
  have hk0 := kept_alloc w (.cells #[.int .i64 P, .int .i64 M, vm] 24)
  have hk1 := kept_alloc (w.alloc (.cells #[.int .i64 P, .int .i64 M, vm] 24)) (.cells #[v1, v2] 60)
  have hk := hk0.tr hk1
  have bx0 := (boxF_new w P M vm 24).kept hk1
  have sv := hvm.kept hk
  have q1 : ((w.alloc (.cells #[.int .i64 P, .int .i64 M, vm] 24)).alloc (.cells #[v1, v2] 60)).cell? ⟨w.heap.size + 1, 0, none⟩ = some v1 := by simp
  have q2 : ((w.alloc (.cells #[.int .i64 P, .int .i64 M, vm] 24)).alloc (.cells #[v1, v2] 60)).cell? ⟨w.heap.size + 1, 1, none⟩ = some v2 := by simp
  have qz : w.heap.size + 1 < ((w.alloc (.cells #[.int .i64 P, .int .i64 M, vm] 24)).alloc (.cells #[v1, v2] 60)).heap.size := by simp
  have sa := hv1
  have sb := hv2
  obtain ⟨a1, cap1, rfl, hcap1, ⟨hcm1, _⟩, hc1⟩ := hv1
  obtain ⟨a2, cap2, rfl, hcap2, ⟨hcm2, _⟩, hc2⟩ := hv2
  unfold maxLen at hcm1 hcm2
  clear hc1 hc2
  go_enter Try.func15, Try.ntmps15
  go_wp2_with (go_at_call 17; (with_reducible refine (alive_any _).mono ?_); rintro e w1 ⟨rfl, ka⟩; have b0 := bx0.kept ka; have s0 := sv.kept ka; have hkA0 := hk.tr ka; have q3 := (Kept.cell' ka qz).trans q1; have q4 := (Kept.cell' ka qz).trans q2)
  go_quiet (fail)
  have b1 := b0.kept (kept_drewN w1 nq)
  have s1 := s0.kept (kept_drewN w1 nq)
  have hkA := hkA0.drewN nq
  have c3 := b1.h0
  have c4 := b1.h1
  have c5 := b1.h2
  clear q1 q2 q3 q4 qz b0 s0
  by_cases hf : FieldP P M mod
  case neg =>
    have HF := hid hf
    clear hf
    go_wp2_with (first
      | (go_at_call 18; (with_reducible refine (made_no P M vm mod _ s1 HF.out).mono ?_); rintro e w2 ⟨rfl, k2⟩; have hkB := hkA.tr k2; have s2 := hvm.kept hkB; have b2 := b1.kept k2; have d0 := b2.h0; have d1 := b2.h1; have d2 := b2.h2)
      | (go_at_call 19; (with_reducible refine (none_any P M vm mod _ s2 HF.out).mono ?_); rintro e w3 ⟨rfl, k3⟩))
    go_ret
    exact ⟨rfl, hkB.tr k3⟩
  have HF := hid hf
  clear hf
  by_cases g1 : 300 < l1.length
  · have G1 : (300 : Int) < (l1.length : Int) := by omega
    clear g1
    go_wp2_with ((go_at_call 18; (with_reducible refine (made_yes P M vm mod _ s1 HF.out).mono ?_); rintro e w2 ⟨b, G, rfl, hg2, t2, gP, gM, gm, k2⟩; have hkC := hkA.tr k2; have s2 := s1.kept k2; have b2 := b1.kept k2; have d0 := b2.h0; have d1 := b2.h1; have d2 := b2.h2; have HO : Hid (Of G P M mod) := hid ⟨gP, gM, gm⟩; clear gP gM gm))
    go_ret
    exact ⟨rfl, hkC⟩
  by_cases g2 : 300 < l2.length
  · have G2 : (300 : Int) < (l2.length : Int) := by omega
    have G1 : (l1.length : Int) ≤ 300 := by omega
    clear g1 g2
    go_wp2_with ((go_at_call 18; (with_reducible refine (made_yes P M vm mod _ s1 HF.out).mono ?_); rintro e w2 ⟨b, G, rfl, hg2, t2, gP, gM, gm, k2⟩; have hkC := hkA.tr k2; have s2 := s1.kept k2; have b2 := b1.kept k2; have d0 := b2.h0; have d1 := b2.h1; have d2 := b2.h2; have HO : Hid (Of G P M mod) := hid ⟨gP, gM, gm⟩; clear gP gM gm))
    go_ret
    exact ⟨rfl, hkC⟩
  have G1 : (l1.length : Int) ≤ 300 := by omega
  have G2 : (l2.length : Int) ≤ 300 := by omega
  clear g1 g2
  go_wp2_with (first
    | (go_at_call 18; (with_reducible refine (made_yes P M vm mod _ s1 HF.out).mono ?_); rintro e w2 ⟨b, G, rfl, hg2, t2, gP, gM, gm, k2⟩; have hkC := hkA.tr k2; have s2 := s1.kept k2; have b2 := b1.kept k2; have d0 := b2.h0; have d1 := b2.h1; have d2 := b2.h2; have HO : Hid (Of G P M mod) := hid ⟨gP, gM, gm⟩; clear gP gM gm)
    | (go_at_call 52; (with_reducible refine (scale_any b G a _ l1 _ (by first | exact hg2 | exact hg2.drewN _) t2 (sa.kept hkC) (by omega)).mono ?_); rintro e w3 ⟨rfl, o3, k3⟩))
  have sa2 := sa.kept hkC
  have sb2 := sb.kept hkC
  obtain ⟨gs, hgs⟩ : ∃ g, g = w2.heap.size := ⟨_, rfl⟩
  rw [← hgs] at o3
  rw [← hgs]
  clear hgs
  obtain ⟨cs, hcs⟩ : ∃ c, c = l1.map (mulG G a) := ⟨_, rfl⟩
  have HCS : Hid (∀ k, k < l1.length → cs.getD k 0 = mulG G a (l1.getD k 0)) := hid (fun k h => by rw [hcs, getD_map' _ _ h])
  have HCL : Hid (cs.length = l1.length) := hid (by rw [hcs, List.length_map])
  rw [← hcs] at o3
  clear hcs
  go_loopw [11, 54] (fun vs vi wr => ∃ k : Nat, k ≤ l1.length ∧ vi = .int .i64 k ∧ vs = .int .i64 (sumG G l1 k) ∧ Kept w3 wr) (fun _ vi _ => l1.length - (intOf vi).toNat)
  case atStart => exact ⟨0, by omega, rfl, rfl, Kept.rfl' _⟩
  case round =>
    obtain ⟨k, hk', rfl, rfl, hkw⟩ := hrel
    have k23 := k3.tr hkw
    have hb3 := b2.kept k23
    have hs3 := s2.kept k23
    have hg3 := hg2.kept k23
    have f0 := hb3.h0
    have f1 := hb3.h1
    have f2 := hb3.h2
    have hst : Hid (sumG G l1 (k + 1) = addG G (sumG G l1 k) (l1.getD k 0)) := hid rfl
    obtain ⟨s, hs⟩ : ∃ s, s = sumG G l1 k := ⟨_, rfl⟩
    rw [← hs] at hst ⊢
    have HS := hid hs
    clear hs
    by_cases hlt : k < l1.length
    · obtain ⟨_, _, e1, _, _, hcc⟩ := sa2.kept k23
      obtain ⟨bb, off, e2, hbb, hcell⟩ := hcc (by intro e; rw [e] at hlt; simp at hlt)
      cases e1
      cases e2
      have hck := hcell k hlt
      obtain ⟨x, hx⟩ : ∃ x, x = l1.getD k 0 := ⟨_, rfl⟩
      have hcx := HCS.out k hlt
      rw [← hx] at hck hst hcx
      have o4 := o3.kept hkw
      have cO := o4.cell (i := k) (by rw [HCL.out]; exact hlt)
      rw [hcx] at cO
      have hgs := o4.lt.2
      have j1 : (k : Int) < (l1.length : Int) := by omega
      clear hx hcx hcell hcc
      go_wp2_with (go_at_call 28; (with_reducible refine (rAdd_field G t2 P M mod vm s x _ HO.out).mono ?_); rintro e w4 ⟨rfl, k4⟩; have bx4 := hb3.kept k4; have d5 := bx4.h0; have d6 := bx4.h1; have d7 := bx4.h2; have d8 := (Kept.cell' k4 hgs).trans cO)
      have hs4 := hs3.kept k4
      have hgs4 : gs < w4.heap.size := Nat.lt_of_lt_of_le hgs k4.size
      go_region_held3 (fun w' => w'.cell? ⟨w.heap.size, 0, none⟩ = some (.int .i64 P) ∧ w'.cell? ⟨w.heap.size, 1, none⟩ = some (.int .i64 M) ∧ w'.cell? ⟨w.heap.size, 2, none⟩ = some vm ∧ w'.cell? ⟨gs, k, none⟩ = some (.int .i64 (mulG G a x))) (first | (simp [go_sem]; done) | (simp [*]; done))
        (first
          | (go_at_call 21; (with_reducible refine (rMul_field G t2 P M mod vm a x _ HO.out (hs4.kept (kept_drew _))).mono ?_); rintro e w5 ⟨rfl, k5⟩; have kk5 := Kept.tr (a := w4) (kept_drew _) k5; have bx5 := bx4.kept kk5; have i0 := bx5.h0; have i1 := bx5.h1; have i2 := bx5.h2; have i3 := (Kept.cell' kk5 hgs4).trans d8))
      go_wp2_with (fail)
      go_roundw
      case rel => exact ⟨k + 1, by omega, by go_num, val_int hst.out.symm, (hkw.tr k4).tr kk5⟩
      case measure => simp [intOf]; omega
    · have ek : k = l1.length := by omega
      have hse : Hid (s = sumG G l1 l1.length) := hid (by rw [HS.out, ek])
      have sa3 := sa2.kept k23
      have sb3 := sb2.kept k23
      have hkE := hkC.tr k23
      obtain ⟨dv, hdv⟩ : ∃ d, d = dotG G l1 l2 (min l1.length l2.length) := ⟨_, rfl⟩
      have HDV : Hid (dotG G l1 l2 (min l1.length l2.length) = dv) := hid hdv.symm
      have HDW : Hid (dotG G l2 l1 (min l2.length l1.length) = dv) := hid (by rw [hdv, dotG_comm t2, Nat.min_comm])
      have jn : ¬ (k : Int) < (l1.length : Int) := by omega
      clear ek hdv hlt
      go_wp2_with (fail)
      go_region_held3 (fun w' => w'.cell? ⟨w.heap.size, 0, none⟩ = some (.int .i64 P) ∧ w'.cell? ⟨w.heap.size, 1, none⟩ = some (.int .i64 M) ∧ w'.cell? ⟨w.heap.size, 2, none⟩ = some vm) (first | (simp [go_sem]; done) | (simp [*]; done))
        (first
          | (go_at_call 53; (with_reducible refine (sum_any b G _ l1 _ (by first | exact hg3.drew | exact hg3.drewN _ | exact hg3.drew.drewN _) t2 (sa3.kept (by first | exact Kept.rfl' _ | exact kept_drew _ | exact kept_drewN _ _ | exact (kept_drew _).drewN _))).mono ?_); rintro e w5 ⟨rfl, n5, rfl⟩; rw [← hse.out])
          | (go_at_call 54; (with_reducible refine (dot_any b G _ _ l1 l2 _ (by first | exact hg3.drew | exact hg3.drewN _ | exact hg3.drew.drewN _ | exact hg6 | exact hg6.drewN _) t2 (by first | exact sa6 | exact sa6.kept (kept_drewN _ _) | exact sa3.kept (by first | exact Kept.rfl' _ | exact kept_drew _ | exact kept_drewN _ _ | exact (kept_drew _).drewN _)) (by first | exact sb6 | exact sb6.kept (kept_drewN _ _) | exact sb3.kept (by first | exact Kept.rfl' _ | exact kept_drew _ | exact kept_drewN _ _ | exact (kept_drew _).drewN _))).mono ?_); rintro e w7 ⟨rfl, n7, rfl⟩; rw [HDV.out])
          | (go_at_call 55; (with_reducible refine (rDot_field G t2 P M mod vm _ _ l1 l2 _ HO (hs3.kept (by first | exact Kept.rfl' _ | exact kept_drew _ | exact kept_drewN _ _ | exact (kept_drew _).drewN _)) (sa3.kept (by first | exact Kept.rfl' _ | exact kept_drew _ | exact kept_drewN _ _ | exact (kept_drew _).drewN _)) (sb3.kept (by first | exact Kept.rfl' _ | exact kept_drew _ | exact kept_drewN _ _ | exact (kept_drew _).drewN _))).mono ?_); rintro e w6 ⟨rfl, k6⟩; rw [HDV.out]; have kk6 := Kept.tr (a := wr) (by first | exact Kept.rfl' _ | exact kept_drew _ | exact kept_drewN _ _ | exact (kept_drew _).drewN _) k6; have hg6 := hg3.kept kk6; have sa6 := sa3.kept kk6; have sb6 := sb3.kept kk6; have bx6 := hb3.kept kk6; have i0 := bx6.h0; have i1 := bx6.h1; have i2 := bx6.h2)
          | (go_at_call 54; (with_reducible refine (dot_any b G _ _ l2 l1 _ (by first | exact hg6 | exact hg6.drewN _) t2 (by first | exact sb6 | exact sb6.kept (kept_drewN _ _)) (by first | exact sa6 | exact sa6.kept (kept_drewN _ _))).mono ?_); rintro e w8 ⟨rfl, n8, rfl⟩; rw [HDW.out]))
      go_wp2_with (fail)
      go_ret
      exact ⟨ret_bool (by simp), Kept.tr (hkE.tr kk6) (by first | exact Kept.rfl' _ | exact kept_drew _ | exact kept_drewN _ _ | exact (kept_drew _).drewN _)⟩
end Go.Proofs.Ytnmidgcmlkofjaa
