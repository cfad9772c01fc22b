/- The walk of the law KeyequationLocators. No conditions. -/
import Derived.Test.YtmnbcnbhnclkhaaNgA
import Derived.Test.YtmnbcnbhnclkhaaZaA
namespace Go.Proofs.Ytmnbcnbhnclkhaa
open Go.RowKit Cw

set_option maxRecDepth 100000 in
set_option maxHeartbeats 4000000 in
theorem keyequationLocators_law (P M : Int) (vm : Value) (mod : List Int) (vu : Value) (u : List Int) (x : Int) (w : World) (hvm : Sl w vm mod) (hu : Sl w vu u) :
    Calls Try.prog 10 #[.agg #[.int .i64 P, .int .i64 M, vm], vu, .int .i64 x] w fun e w' => e = .returned (.bool true) ∧ Kept w w' := by
  have hkc := kept_alloc w (.cells #[.int .i64 P, .int .i64 M, vm] 24)
  have bb := boxF_new w P M vm 24
  have sm := hvm.kept hkc
  have su := hu.kept hkc
  obtain ⟨au, capu, rfl, qu1, ⟨qu2, _⟩, _⟩ := hu
  unfold maxLen at qu2
  go_enter Try.func10, Try.ntmps10
  go_wp2_with (go_at_call 13; (with_reducible refine (alive5_any _).mono ?_); rintro e w1 ⟨rfl, ka⟩; have bb := bb.kept ka; have sm := sm.kept ka; have hkc := hkc.tr ka; have su := su.kept ka; have d0 := bb.h0; have d1 := bb.h1; have d2 := bb.h2; clear ka)
  by_cases hf : FieldP P M mod
  case neg =>
    have HF := hid hf
    clear hf
    go_wp2_with (go_at_call 14; (with_reducible refine (made5_no P M vm mod _ sm HF.out).mono ?_); rintro e w2 ⟨rfl, k2⟩; have su := su.kept k2)
    go_ret
    exact ⟨rfl, hkc.tr k2⟩
  have HF := hid hf
  clear hf
  by_cases hs : Shrt [u]
  case neg =>
    have HS := hid hs
    clear hs
    go_wp2_with (first
      | (go_at_call 14; (with_reducible refine (made5_yes P M vm mod _ sm HF.out).mono ?_); rintro e w2 ⟨b, G, rfl, g2, t, gP, gM, gm, k2⟩; have HO : Hid (Of G P M mod) := hid ⟨gP, gM, gm⟩; clear gP gM gm; have hkc := hkc.tr k2; have ff : Fw w2 b G w.heap.size P M vm mod := ⟨g2, bb.kept k2, sm.kept k2⟩; have su := su.kept k2; have d0 := ff.b.h0; have d1 := ff.b.h1; have d2 := ff.b.h2; clear k2 g2 bb sm; have hcur := cur w2)
      | (go_at_call 15; (with_reducible refine (short_r _ [u] _ (sll_one _ _ _ _ _ su) false (.inr ⟨rfl, HS.out⟩)).mono ?_); rintro e w3 ⟨rfl, k3⟩; have hst := Kept.tr (kept_alloc _ _) k3; have hkc := hkc.tr hst; have ff := ff.kept hst; have su := su.kept hst; clear hst k3 hcur; have hcur := cur w3; have d0 := ff.b.h0; have d1 := ff.b.h1; have d2 := ff.b.h2))
    go_ret
    exact ⟨rfl, hkc⟩
  have HS := hid hs
  have nu : u.length ≤ 20 := hs _ (by simp)
  clear hs
  go_wp2_with (first
    | (go_at_call 14; (with_reducible refine (made5_yes P M vm mod _ sm HF.out).mono ?_); rintro e w2 ⟨b, G, rfl, g2, t, gP, gM, gm, k2⟩; have HO : Hid (Of G P M mod) := hid ⟨gP, gM, gm⟩; clear gP gM gm; have hkc := hkc.tr k2; have ff : Fw w2 b G w.heap.size P M vm mod := ⟨g2, bb.kept k2, sm.kept k2⟩; have su := su.kept k2; have d0 := ff.b.h0; have d1 := ff.b.h1; have d2 := ff.b.h2; clear k2 g2 bb sm; have hcur := cur w2)
    | (go_at_call 15; (with_reducible refine (short_r _ [u] _ (sll_one _ _ _ _ _ su) true (.inl ⟨rfl, HS.out⟩)).mono ?_); rintro e w3 ⟨rfl, k3⟩; have hst := Kept.tr (kept_alloc _ _) k3; have hkc := hkc.tr hst; have ff := ff.kept hst; have su := su.kept hst; clear hst k3 hcur; have hcur := cur w3; have d0 := ff.b.h0; have d1 := ff.b.h1; have d2 := ff.b.h2))
  refine (kLocator_p b G t _ u _ (ff.g.kept (by first | exact Kept.rfl' _ | exact kept_alloc _ _ | exact kept_drew _ | exact kept_drewN _ _ | exact (kept_drew _).drewN _)) (su.kept (by first | exact Kept.rfl' _ | exact kept_alloc _ _ | exact kept_drew _ | exact kept_drewN _ _ | exact (kept_drew _).drewN _)) (by omega)).mono ?_
  rintro e wx ⟨v3, l3, rfl, o3, kx, c3, p3⟩
  have hst := Kept.from hcur (by first | exact Kept.rfl' _ | exact kept_alloc _ _ | exact kept_drew _ | exact kept_drewN _ _ | exact (kept_drew _).drewN _) kx
  clear hcur kx
  have hcur := cur wx
  have hkc := hkc.tr hst
  have ff := ff.kept hst
  have su := su.kept hst
  (first | (have s3 := s3.kept hst) | skip)
  (first | (have s4 := s4.kept hst) | skip)
  clear hst
  have d0 := ff.b.h0
  have d1 := ff.b.h1
  have d2 := ff.b.h2
  have s3 := o3.sl
  have P3 := hid p3
  clear p3 o3
  have n3 : l3.length ≤ 40 := (by have := t.can_ln' c3 P3.out; have := Pl.lcf_ln (fun i => t.e (u.getD i 0)) u.length; omega)
  obtain ⟨wL, hwL⟩ : ∃ x, x = wx := ⟨_, rfl⟩
  subst hwL
  go_wp2_with (fail)
  go_loopw [9, 29] (fun vb vi wr => ∃ (k : Nat) (bk : Bool), k ≤ u.length ∧ vi = .int .i64 k ∧ vb = .bool bk ∧ BIff bk (∃ i, i < k ∧ t.e (u.getD i 0) * t.e x = 1) ∧ Kept wL wr) (fun _ vi _ => u.length - (intOf vi).toNat)
  case atStart => exact ⟨0, false, by omega, rfl, rfl, ⟨(fun h => by cases h), fun ⟨i, hi, _⟩ => by omega⟩, Kept.rfl' _⟩
  case round =>
    obtain ⟨k, bk, hk, rfl, rfl, hb, hkw⟩ := hrel
    have ff := ff.kept hkw
    have su := su.kept hkw
    have s3 := s3.kept hkw
    have hkc := hkc.tr hkw
    have d0 := ff.b.h0
    have d1 := ff.b.h1
    have d2 := ff.b.h2
    clear hcur
    have hcur := cur wr
    have hkw' := hkw
    by_cases hlt : k < u.length
    · have zr := su
      obtain ⟨_, _, e1, _, _, hc⟩ := zr
      cases e1
      obtain ⟨bp, off, e2, hbp, hcell⟩ := hc (by intro e; rw [e] at hlt; simp at hlt)
      cases e2
      have hck := hcell k hlt
      obtain ⟨z, hz⟩ : ∃ z, z = u.getD k 0 := ⟨_, rfl⟩
      rw [← hz] at hck
      have HZ := hid hz
      have hki : (k : Int) < (u.length : Int) := by omega
      have k0 : (0 : Int) ≤ (k : Int) := by omega
      clear hz hcell hc
      cases bk with
      | true =>
        have hb' : BIff true (∃ i, i < k + 1 ∧ t.e (u.getD i 0) * t.e x = 1) := ⟨fun _ => by obtain ⟨i, hi, he⟩ := hb.1 rfl; exact ⟨i, by omega, he⟩, fun _ => rfl⟩
        go_wp2_with (fail)
        go_roundw
        case rel => exact ⟨k + 1, true, by omega, by go_num, rfl, hb', hkw⟩
        case measure => simp [intOf]; omega
      | false =>
        obtain ⟨y, hy⟩ : ∃ y, y = mulG G z x := ⟨_, rfl⟩
        have HY : Hid (mulG G z x = y) := hid hy.symm
        have hye : y = 1 ↔ t.e (u.getD k 0) * t.e x = 1 := by
          rw [← HZ.out, ← t.e_mul, ← hy]
          have hq := t.qb
          exact ⟨fun e => by rw [e, t.e_one], fun e => t.e_eq (by rw [hy]; exact t.mul_bd _ _) ⟨by omega, by omega⟩ (by rw [e, t.e_one])⟩
        by_cases hy1 : y = 1
        · have hb' : BIff true (∃ i, i < k + 1 ∧ t.e (u.getD i 0) * t.e x = 1) := ⟨fun _ => ⟨k, by omega, hye.1 hy1⟩, fun _ => rfl⟩
          subst hy1
          clear hy hye
          go_wp2_with (first
            | (go_at_call 34; (with_reducible refine (rMul_field G t P M mod vm z x _ HO.out (ff.m.kept (by first | exact Kept.rfl' _ | exact kept_alloc _ _ | exact kept_drew _ | exact kept_drewN _ _ | exact (kept_drew _).drewN _))).mono ?_); rintro e wx ⟨rfl, kx⟩; have hst := Kept.from hcur (by first | exact Kept.rfl' _ | exact kept_alloc _ _ | exact kept_drew _ | exact kept_drewN _ _ | exact (kept_drew _).drewN _) kx; clear hcur kx; have hcur := cur wx; have hkc := hkc.tr hst; have ff := ff.kept hst; have su := su.kept hst; (first | (have s3 := s3.kept hst) | skip); (first | (have s4 := s4.kept hst) | skip); (first | (have hkw' := hkw'.tr hst) | skip); clear hst; have d0 := ff.b.h0; have d1 := ff.b.h1; have d2 := ff.b.h2; rw [HY.out]))
          go_roundw
          case rel => exact ⟨k + 1, true, by omega, by go_num, rfl, hb', hkw'⟩
          case measure => simp [intOf]; omega
        · have hb' : BIff false (∃ i, i < k + 1 ∧ t.e (u.getD i 0) * t.e x = 1) := ⟨fun h => by (cases h), fun ⟨i, hi, he⟩ => by
            by_cases e : i = k
            · subst e; exact absurd (hye.2 he) hy1
            · exact hb.2 ⟨i, by omega, he⟩⟩
          have ty : (y == 1) = false := by simpa using hy1
          clear hy hye hy1
          go_wp2_with (first
            | (go_at_call 34; (with_reducible refine (rMul_field G t P M mod vm z x _ HO.out (ff.m.kept (by first | exact Kept.rfl' _ | exact kept_alloc _ _ | exact kept_drew _ | exact kept_drewN _ _ | exact (kept_drew _).drewN _))).mono ?_); rintro e wx ⟨rfl, kx⟩; have hst := Kept.from hcur (by first | exact Kept.rfl' _ | exact kept_alloc _ _ | exact kept_drew _ | exact kept_drewN _ _ | exact (kept_drew _).drewN _) kx; clear hcur kx; have hcur := cur wx; have hkc := hkc.tr hst; have ff := ff.kept hst; have su := su.kept hst; (first | (have s3 := s3.kept hst) | skip); (first | (have s4 := s4.kept hst) | skip); (first | (have hkw' := hkw'.tr hst) | skip); clear hst; have d0 := ff.b.h0; have d1 := ff.b.h1; have d2 := ff.b.h2; rw [HY.out]))
          go_roundw
          case rel => exact ⟨k + 1, false, by omega, by go_num, rfl, hb', hkw'⟩
          case measure => simp [intOf]; omega
    · have hge : (u.length : Int) ≤ (k : Int) := by omega
      have hfin : BIff bk (evL G l3 x = 0) := (by
        show bk = true ↔ _
        rw [show bk = true ↔ _ from hb, show k = u.length by omega, t.evL_zero, P3.out]
        exact (Pl.ev_lcf _ _ _).symm)
      obtain ⟨y, hy⟩ : ∃ y, y = evL G l3 x := ⟨_, rfl⟩
      have HY : Hid (evL G l3 x = y) := hid hy.symm
      rw [← hy] at hfin
      clear hlt hy
      by_cases h0 : y = 0
      · subst h0
        obtain rfl : bk = true := hfin.2 rfl
        go_wp2_with (first
          | (go_at_call 25; (with_reducible refine (rkLocator_p G t P M mod vm _ u _ HO (ff.m.kept (by first | exact Kept.rfl' _ | exact kept_alloc _ _ | exact kept_drew _ | exact kept_drewN _ _ | exact (kept_drew _).drewN _)) (su.kept (by first | exact Kept.rfl' _ | exact kept_alloc _ _ | exact kept_drew _ | exact kept_drewN _ _ | exact (kept_drew _).drewN _)) (by omega)).mono ?_); rintro e wx ⟨v4, l4, rfl, o4, kx, c4, p4⟩; have hst := Kept.from hcur (by first | exact Kept.rfl' _ | exact kept_alloc _ _ | exact kept_drew _ | exact kept_drewN _ _ | exact (kept_drew _).drewN _) kx; clear hcur kx; have hcur := cur wx; have hkc := hkc.tr hst; have ff := ff.kept hst; have su := su.kept hst; (first | (have s3 := s3.kept hst) | skip); (first | (have s4 := s4.kept hst) | skip); (first | (have hkw' := hkw'.tr hst) | skip); clear hst; have d0 := ff.b.h0; have d1 := ff.b.h1; have d2 := ff.b.h2; have s4 := o4.sl; have P4 := hid p4; clear p4 o4)
          | (go_at_call 17; (with_reducible refine (same_eq _ _ l3 l4 _ (s3.kept (by first | exact Kept.rfl' _ | exact kept_alloc _ _ | exact kept_drew _ | exact kept_drewN _ _ | exact (kept_drew _).drewN _)) (s4.kept (by first | exact Kept.rfl' _ | exact kept_alloc _ _ | exact kept_drew _ | exact kept_drewN _ _ | exact (kept_drew _).drewN _)) (t.pl_inj c3 c4 (by rw [P3.out, P4.out]))).mono ?_); rintro e wx ⟨rfl, kx⟩; have hst := Kept.from hcur (by first | exact Kept.rfl' _ | exact kept_alloc _ _ | exact kept_drew _ | exact kept_drewN _ _ | exact (kept_drew _).drewN _) kx; clear hcur kx; have hcur := cur wx; have hkc := hkc.tr hst; have ff := ff.kept hst; have su := su.kept hst; (first | (have s3 := s3.kept hst) | skip); (first | (have s4 := s4.kept hst) | skip); (first | (have hkw' := hkw'.tr hst) | skip); clear hst; have d0 := ff.b.h0; have d1 := ff.b.h1; have d2 := ff.b.h2)
          | (go_at_call 35; (with_reducible refine (rEval_p G t P M mod vm _ l3 x _ HO (ff.m.kept (by first | exact Kept.rfl' _ | exact kept_alloc _ _ | exact kept_drew _ | exact kept_drewN _ _ | exact (kept_drew _).drewN _)) (s3.kept (by first | exact Kept.rfl' _ | exact kept_alloc _ _ | exact kept_drew _ | exact kept_drewN _ _ | exact (kept_drew _).drewN _)) (by omega)).mono ?_); rintro e wx ⟨rfl, kx⟩; have hst := Kept.from hcur (by first | exact Kept.rfl' _ | exact kept_alloc _ _ | exact kept_drew _ | exact kept_drewN _ _ | exact (kept_drew _).drewN _) kx; clear hcur kx; have hcur := cur wx; have hkc := hkc.tr hst; have ff := ff.kept hst; have su := su.kept hst; (first | (have s3 := s3.kept hst) | skip); (first | (have s4 := s4.kept hst) | skip); (first | (have hkw' := hkw'.tr hst) | skip); clear hst; have d0 := ff.b.h0; have d1 := ff.b.h1; have d2 := ff.b.h2; rw [HY.out]))
        go_ret
        exact ⟨ret_bool (by first | rfl | (simp; done) | (simp; omega)), hkc⟩
      have ty : (y == 0) = false := by simpa using h0
      obtain rfl : bk = false := by
        cases bk with
        | false => rfl
        | true => exact absurd (hfin.1 rfl) h0
      clear h0
      go_wp2_with (first
        | (go_at_call 25; (with_reducible refine (rkLocator_p G t P M mod vm _ u _ HO (ff.m.kept (by first | exact Kept.rfl' _ | exact kept_alloc _ _ | exact kept_drew _ | exact kept_drewN _ _ | exact (kept_drew _).drewN _)) (su.kept (by first | exact Kept.rfl' _ | exact kept_alloc _ _ | exact kept_drew _ | exact kept_drewN _ _ | exact (kept_drew _).drewN _)) (by omega)).mono ?_); rintro e wx ⟨v4, l4, rfl, o4, kx, c4, p4⟩; have hst := Kept.from hcur (by first | exact Kept.rfl' _ | exact kept_alloc _ _ | exact kept_drew _ | exact kept_drewN _ _ | exact (kept_drew _).drewN _) kx; clear hcur kx; have hcur := cur wx; have hkc := hkc.tr hst; have ff := ff.kept hst; have su := su.kept hst; (first | (have s3 := s3.kept hst) | skip); (first | (have s4 := s4.kept hst) | skip); (first | (have hkw' := hkw'.tr hst) | skip); clear hst; have d0 := ff.b.h0; have d1 := ff.b.h1; have d2 := ff.b.h2; have s4 := o4.sl; have P4 := hid p4; clear p4 o4)
        | (go_at_call 17; (with_reducible refine (same_eq _ _ l3 l4 _ (s3.kept (by first | exact Kept.rfl' _ | exact kept_alloc _ _ | exact kept_drew _ | exact kept_drewN _ _ | exact (kept_drew _).drewN _)) (s4.kept (by first | exact Kept.rfl' _ | exact kept_alloc _ _ | exact kept_drew _ | exact kept_drewN _ _ | exact (kept_drew _).drewN _)) (t.pl_inj c3 c4 (by rw [P3.out, P4.out]))).mono ?_); rintro e wx ⟨rfl, kx⟩; have hst := Kept.from hcur (by first | exact Kept.rfl' _ | exact kept_alloc _ _ | exact kept_drew _ | exact kept_drewN _ _ | exact (kept_drew _).drewN _) kx; clear hcur kx; have hcur := cur wx; have hkc := hkc.tr hst; have ff := ff.kept hst; have su := su.kept hst; (first | (have s3 := s3.kept hst) | skip); (first | (have s4 := s4.kept hst) | skip); (first | (have hkw' := hkw'.tr hst) | skip); clear hst; have d0 := ff.b.h0; have d1 := ff.b.h1; have d2 := ff.b.h2)
        | (go_at_call 35; (with_reducible refine (rEval_p G t P M mod vm _ l3 x _ HO (ff.m.kept (by first | exact Kept.rfl' _ | exact kept_alloc _ _ | exact kept_drew _ | exact kept_drewN _ _ | exact (kept_drew _).drewN _)) (s3.kept (by first | exact Kept.rfl' _ | exact kept_alloc _ _ | exact kept_drew _ | exact kept_drewN _ _ | exact (kept_drew _).drewN _)) (by omega)).mono ?_); rintro e wx ⟨rfl, kx⟩; have hst := Kept.from hcur (by first | exact Kept.rfl' _ | exact kept_alloc _ _ | exact kept_drew _ | exact kept_drewN _ _ | exact (kept_drew _).drewN _) kx; clear hcur kx; have hcur := cur wx; have hkc := hkc.tr hst; have ff := ff.kept hst; have su := su.kept hst; (first | (have s3 := s3.kept hst) | skip); (first | (have s4 := s4.kept hst) | skip); (first | (have hkw' := hkw'.tr hst) | skip); clear hst; have d0 := ff.b.h0; have d1 := ff.b.h1; have d2 := ff.b.h2; rw [HY.out]))
      go_ret
      exact ⟨ret_bool (by first | rfl | (simp; done) | (simp; omega)), hkc⟩
end Go.Proofs.Ytmnbcnbhnclkhaa
