/- The walk of the law KeyequationOnly. No conditions. -/
import Derived.Test.YtmnbcnbhnclkhaaNgA
import Derived.Test.YtmnbcnbhnclkhaaZaA
namespace Go.Proofs.Ytmnbcnbhnclkhaa
open Go.RowKit Cw

set_option maxRecDepth 100000 in
set_option maxHeartbeats 4000000 in
theorem keyequationOnly_law (P M : Int) (vm : Value) (mod : List Int) (vus vlc vev : Value) (us lc ev : List Int) (r n : Int) (w : World) (hvm : Sl w vm mod) (hus : Sl w vus us) (hlc : Sl w vlc lc) (hev : Sl w vev ev) (hr1 : -9223372036854775808 ≤ r) (hr2 : r ≤ 9223372036854775807) (hn1 : -9223372036854775808 ≤ n) (hn2 : n ≤ 9223372036854775807) :
    Calls Try.prog 5 #[.agg #[.int .i64 P, .int .i64 M, vm], .agg #[vus, vlc, vev], .agg #[.int .i64 r, .int .i64 n]] w fun e w' => e = .returned (.bool true) ∧ Kept w w' := by
  have hkc := kept_alloc w (.cells #[.int .i64 P, .int .i64 M, vm] 24)
  have bb := boxF_new w P M vm 24
  have sm := hvm.kept hkc
  have hkb := kept_alloc (w.alloc (.cells #[.int .i64 P, .int .i64 M, vm] 24)) (.cells #[vus, vlc, vev] 43)
  have bx00 : Bx ((w.alloc (.cells #[.int .i64 P, .int .i64 M, vm] 24)).alloc (.cells #[vus, vlc, vev] 43)) (w.heap.size + 1) 0 (vus) := ⟨by simp, by simp⟩
  have bx01 : Bx ((w.alloc (.cells #[.int .i64 P, .int .i64 M, vm] 24)).alloc (.cells #[vus, vlc, vev] 43)) (w.heap.size + 1) 1 (vlc) := ⟨by simp, by simp⟩
  have bx02 : Bx ((w.alloc (.cells #[.int .i64 P, .int .i64 M, vm] 24)).alloc (.cells #[vus, vlc, vev] 43)) (w.heap.size + 1) 2 (vev) := ⟨by simp, by simp⟩
  have bb := bb.kept hkb
  have sm := sm.kept hkb
  have hkc := hkc.tr hkb
  clear hkb
  have hkb := kept_alloc ((w.alloc (.cells #[.int .i64 P, .int .i64 M, vm] 24)).alloc (.cells #[vus, vlc, vev] 43)) (.cells #[.int .i64 r, .int .i64 n] 36)
  have bx00 := bx00.kept hkb
  have bx01 := bx01.kept hkb
  have bx02 := bx02.kept hkb
  have bx10 : Bx (((w.alloc (.cells #[.int .i64 P, .int .i64 M, vm] 24)).alloc (.cells #[vus, vlc, vev] 43)).alloc (.cells #[.int .i64 r, .int .i64 n] 36)) (w.heap.size + 1 + 1) 0 (.int .i64 r) := bx_new _ _ _ _ _ (by simp) rfl
  have bx11 : Bx (((w.alloc (.cells #[.int .i64 P, .int .i64 M, vm] 24)).alloc (.cells #[vus, vlc, vev] 43)).alloc (.cells #[.int .i64 r, .int .i64 n] 36)) (w.heap.size + 1 + 1) 1 (.int .i64 n) := bx_new _ _ _ _ _ (by simp) rfl
  have bb := bb.kept hkb
  have sm := sm.kept hkb
  have hkc := hkc.tr hkb
  clear hkb
  have sus := hus.kept hkc
  obtain ⟨aus, capus, rfl, qus1, ⟨qus2, _⟩, _⟩ := hus
  unfold maxLen at qus2
  have slc := hlc.kept hkc
  obtain ⟨alc, caplc, rfl, qlc1, ⟨qlc2, _⟩, _⟩ := hlc
  unfold maxLen at qlc2
  have sev := hev.kept hkc
  obtain ⟨aev, capev, rfl, qev1, ⟨qev2, _⟩, _⟩ := hev
  unfold maxLen at qev2
  go_enter Try.func5, Try.ntmps5
  go_wp2_with (go_at_call 13; (with_reducible refine (alive5_any _).mono ?_); rintro e w1 ⟨rfl, ka⟩; have bb := bb.kept ka; have sm := sm.kept ka; have hkc := hkc.tr ka; have sus := sus.kept ka; have slc := slc.kept ka; have sev := sev.kept ka; have bx00 := bx00.kept ka; have bx01 := bx01.kept ka; have bx02 := bx02.kept ka; have bx10 := bx10.kept ka; have bx11 := bx11.kept ka; have d0 := bb.h0; have d1 := bb.h1; have d2 := bb.h2; clear ka)
  by_cases hf : FieldP P M mod
  case neg =>
    have HF := hid hf
    clear hf
    go_wp2_with (go_at_call 14; (with_reducible refine (made5_no P M vm mod _ sm HF.out).mono ?_); rintro e w2 ⟨rfl, k2⟩; have sus := sus.kept k2; have slc := slc.kept k2; have sev := sev.kept k2; have bx00 := bx00.kept k2; have bx01 := bx01.kept k2; have bx02 := bx02.kept k2; have bx10 := bx10.kept k2; have bx11 := bx11.kept k2; have cbx00 := bx00.h; have cbx01 := bx01.h; have cbx02 := bx02.h; have cbx10 := bx10.h; have cbx11 := bx11.h)
    go_quiet (fail)
    go_wp2_with (fail)
    go_ret
    exact ⟨rfl, hkc.tr (k2.drewN _)⟩
  have HF := hid hf
  clear hf
  by_cases hs : Shrt [us, lc, ev]
  case neg =>
    have HS := hid hs
    clear hs
    go_wp2_with (first
      | (go_at_call 14; (with_reducible refine (made5_yes P M vm mod _ sm HF.out).mono ?_); rintro e w2 ⟨b, G, rfl, g2, t, gP, gM, gm, k2⟩; have HO : Hid (Of G P M mod) := hid ⟨gP, gM, gm⟩; clear gP gM gm; have hkc := hkc.tr k2; have ff : Fw w2 b G w.heap.size P M vm mod := ⟨g2, bb.kept k2, sm.kept k2⟩; have sus := sus.kept k2; have slc := slc.kept k2; have sev := sev.kept k2; have bx00 := bx00.kept k2; have bx01 := bx01.kept k2; have bx02 := bx02.kept k2; have bx10 := bx10.kept k2; have bx11 := bx11.kept k2; have cbx00 := bx00.h; have cbx01 := bx01.h; have cbx02 := bx02.h; have cbx10 := bx10.h; have cbx11 := bx11.h; have d0 := ff.b.h0; have d1 := ff.b.h1; have d2 := ff.b.h2; clear k2 g2 bb sm; have hcur := cur w2))
    go_quiet (fail)
    clear bx10 cbx10
    clear bx11 cbx11
    go_wp2_with (first
      | (go_at_call 15; (with_reducible refine (short_r _ [us, lc, ev] _ (sllb_three _ _ (drewN_sz _ _) _ _ _ _ _ _ _ _ _ _ (sus.kept (kept_drewN _ _)) (slc.kept (kept_drewN _ _)) (sev.kept (kept_drewN _ _))) false (.inr ⟨rfl, HS.out⟩)).mono ?_); rintro e w3 ⟨rfl, k3⟩; have hst := Kept.tr (kept_drewN _ _) (Kept.tr (kept_alloc _ _) k3); have hkc := hkc.tr hst; have ff := ff.kept hst; have sus := sus.kept hst; have slc := slc.kept hst; have sev := sev.kept hst; have bx00 := bx00.kept hst; have bx01 := bx01.kept hst; have bx02 := bx02.kept hst; clear hst k3 hcur; have hcur := cur w3; have d0 := ff.b.h0; have d1 := ff.b.h1; have d2 := ff.b.h2; have cbx00 := bx00.h; have cbx01 := bx01.h; have cbx02 := bx02.h))
    go_ret
    exact ⟨rfl, hkc⟩
  have HS := hid hs
  have nus : us.length ≤ 20 := hs _ (by simp)
  have nlc : lc.length ≤ 20 := hs _ (by simp)
  have nev : ev.length ≤ 20 := hs _ (by simp)
  clear hs
  go_wp2_with (first
    | (go_at_call 14; (with_reducible refine (made5_yes P M vm mod _ sm HF.out).mono ?_); rintro e w2 ⟨b, G, rfl, g2, t, gP, gM, gm, k2⟩; have HO : Hid (Of G P M mod) := hid ⟨gP, gM, gm⟩; clear gP gM gm; have hkc := hkc.tr k2; have ff : Fw w2 b G w.heap.size P M vm mod := ⟨g2, bb.kept k2, sm.kept k2⟩; have sus := sus.kept k2; have slc := slc.kept k2; have sev := sev.kept k2; have bx00 := bx00.kept k2; have bx01 := bx01.kept k2; have bx02 := bx02.kept k2; have bx10 := bx10.kept k2; have bx11 := bx11.kept k2; have cbx00 := bx00.h; have cbx01 := bx01.h; have cbx02 := bx02.h; have cbx10 := bx10.h; have cbx11 := bx11.h; have d0 := ff.b.h0; have d1 := ff.b.h1; have d2 := ff.b.h2; clear k2 g2 bb sm; have hcur := cur w2))
  go_quiet (fail)
  clear bx10 cbx10
  clear bx11 cbx11
  by_cases hr : r < 1 ∨ 24 < r ∨ n < 0 ∨ r < n
  · have hcs : r < 1 ∨ (1 ≤ r ∧ 24 < r) ∨ (1 ≤ r ∧ r ≤ 24 ∧ n < 0) ∨ (1 ≤ r ∧ r ≤ 24 ∧ 0 ≤ n ∧ r < n) := by omega
    clear hr
    rcases hcs with g1 | ⟨g1, g2⟩ | ⟨g1, g2, g3⟩ | ⟨g1, g2, g3, g4⟩
    all_goals
      go_wp2_with (first
        | (go_at_call 15; (with_reducible refine (short_r _ [us, lc, ev] _ (sllb_three _ _ (drewN_sz _ _) _ _ _ _ _ _ _ _ _ _ (sus.kept (kept_drewN _ _)) (slc.kept (kept_drewN _ _)) (sev.kept (kept_drewN _ _))) true (.inl ⟨rfl, HS.out⟩)).mono ?_); rintro e w3 ⟨rfl, k3⟩; have hst := Kept.tr (kept_drewN _ _) (Kept.tr (kept_alloc _ _) k3); have hkc := hkc.tr hst; have ff := ff.kept hst; have sus := sus.kept hst; have slc := slc.kept hst; have sev := sev.kept hst; have bx00 := bx00.kept hst; have bx01 := bx01.kept hst; have bx02 := bx02.kept hst; clear hst k3 hcur; have hcur := cur w3; have d0 := ff.b.h0; have d1 := ff.b.h1; have d2 := ff.b.h2; have cbx00 := bx00.h; have cbx01 := bx01.h; have cbx02 := bx02.h))
      go_ret
      exact ⟨ret_bool (by first | rfl | (simp; done) | (simp; omega)), hkc⟩
  obtain ⟨R, hR⟩ := Int.eq_ofNat_of_zero_le (show 0 ≤ r by omega)
  obtain ⟨N, hN⟩ := Int.eq_ofNat_of_zero_le (show 0 ≤ n by omega)
  have R1 : 1 ≤ R := by omega
  have R2 : R ≤ 24 := by omega
  have N1 : N ≤ R := by omega
  have r1 : (1 : Int) ≤ (R : Int) := by omega
  have r2 : (R : Int) ≤ 24 := by omega
  have r3 : (R : Int) ≤ 256 := by omega
  have n1 : (0 : Int) ≤ (N : Int) := by omega
  have n2 : (N : Int) ≤ (R : Int) := by omega
  rw [hR, hN]
  clear hR hN
  clear hr hr1 hr2 hn1 hn2
  by_cases hP : Pl.PairP (t.pl us) R N (t.pl lc) (t.pl ev)
  case neg =>
    have HP := hid (bif_no hP)
    clear hP
    go_wp2_with (first
      | (go_at_call 15; (with_reducible refine (short_r _ [us, lc, ev] _ (sllb_three _ _ (drewN_sz _ _) _ _ _ _ _ _ _ _ _ _ (sus.kept (kept_drewN _ _)) (slc.kept (kept_drewN _ _)) (sev.kept (kept_drewN _ _))) true (.inl ⟨rfl, HS.out⟩)).mono ?_); rintro e w3 ⟨rfl, k3⟩; have hst := Kept.tr (kept_drewN _ _) (Kept.tr (kept_alloc _ _) k3); have hkc := hkc.tr hst; have ff := ff.kept hst; have sus := sus.kept hst; have slc := slc.kept hst; have sev := sev.kept hst; have bx00 := bx00.kept hst; have bx01 := bx01.kept hst; have bx02 := bx02.kept hst; clear hst k3 hcur; have hcur := cur w3; have d0 := ff.b.h0; have d1 := ff.b.h1; have d2 := ff.b.h2; have cbx00 := bx00.h; have cbx01 := bx01.h; have cbx02 := bx02.h)
      | (go_at_call 21; (with_reducible refine (rkPair_r G t P M mod vm _ _ _ us lc ev R N false _ HO (ff.m.kept (by first | exact Kept.rfl' _ | exact kept_alloc _ _ | exact kept_drew _ | exact kept_drewN _ _ | exact (kept_drew _).drewN _)) (sus.kept (by first | exact Kept.rfl' _ | exact kept_alloc _ _ | exact kept_drew _ | exact kept_drewN _ _ | exact (kept_drew _).drewN _)) (slc.kept (by first | exact Kept.rfl' _ | exact kept_alloc _ _ | exact kept_drew _ | exact kept_drewN _ _ | exact (kept_drew _).drewN _)) (sev.kept (by first | exact Kept.rfl' _ | exact kept_alloc _ _ | exact kept_drew _ | exact kept_drewN _ _ | exact (kept_drew _).drewN _)) (by omega) (by omega) (by omega) (by omega) (by omega) HP.out).mono ?_); rintro e wx ⟨rfl, kx⟩; have hst := Kept.from hcur (by first | exact Kept.rfl' _ | exact kept_alloc _ _ | exact kept_drew _ | exact kept_drewN _ _ | exact (kept_drew _).drewN _) kx; clear hcur kx; have hcur := cur wx; have hkc := hkc.tr hst; have ff := ff.kept hst; have sus := sus.kept hst; have slc := slc.kept hst; have sev := sev.kept hst; have bx00 := bx00.kept hst; have bx01 := bx01.kept hst; have bx02 := bx02.kept hst; (first | (have s4 := s4.kept hst) | skip); (first | (have s5 := s5.kept hst) | skip); (first | (have s6 := s6.kept hst) | skip); (first | (have s7 := s7.kept hst) | skip); clear hst; have d0 := ff.b.h0; have d1 := ff.b.h1; have d2 := ff.b.h2; have cbx00 := bx00.h; have cbx01 := bx01.h; have cbx02 := bx02.h))
    go_ret
    exact ⟨ret_bool (by first | rfl | (simp; done) | (simp; omega)), hkc⟩
  have HP := hid (bif_yes hP)
  have HPP := hid hP
  clear hP
  go_wp2_with (first
    | (go_at_call 15; (with_reducible refine (short_r _ [us, lc, ev] _ (sllb_three _ _ (drewN_sz _ _) _ _ _ _ _ _ _ _ _ _ (sus.kept (kept_drewN _ _)) (slc.kept (kept_drewN _ _)) (sev.kept (kept_drewN _ _))) true (.inl ⟨rfl, HS.out⟩)).mono ?_); rintro e w3 ⟨rfl, k3⟩; have hst := Kept.tr (kept_drewN _ _) (Kept.tr (kept_alloc _ _) k3); have hkc := hkc.tr hst; have ff := ff.kept hst; have sus := sus.kept hst; have slc := slc.kept hst; have sev := sev.kept hst; have bx00 := bx00.kept hst; have bx01 := bx01.kept hst; have bx02 := bx02.kept hst; clear hst k3 hcur; have hcur := cur w3; have d0 := ff.b.h0; have d1 := ff.b.h1; have d2 := ff.b.h2; have cbx00 := bx00.h; have cbx01 := bx01.h; have cbx02 := bx02.h)
    | (go_at_call 21; (with_reducible refine (rkPair_r G t P M mod vm _ _ _ us lc ev R N true _ HO (ff.m.kept (by first | exact Kept.rfl' _ | exact kept_alloc _ _ | exact kept_drew _ | exact kept_drewN _ _ | exact (kept_drew _).drewN _)) (sus.kept (by first | exact Kept.rfl' _ | exact kept_alloc _ _ | exact kept_drew _ | exact kept_drewN _ _ | exact (kept_drew _).drewN _)) (slc.kept (by first | exact Kept.rfl' _ | exact kept_alloc _ _ | exact kept_drew _ | exact kept_drewN _ _ | exact (kept_drew _).drewN _)) (sev.kept (by first | exact Kept.rfl' _ | exact kept_alloc _ _ | exact kept_drew _ | exact kept_drewN _ _ | exact (kept_drew _).drewN _)) (by omega) (by omega) (by omega) (by omega) (by omega) HP.out).mono ?_); rintro e wx ⟨rfl, kx⟩; have hst := Kept.from hcur (by first | exact Kept.rfl' _ | exact kept_alloc _ _ | exact kept_drew _ | exact kept_drewN _ _ | exact (kept_drew _).drewN _) kx; clear hcur kx; have hcur := cur wx; have hkc := hkc.tr hst; have ff := ff.kept hst; have sus := sus.kept hst; have slc := slc.kept hst; have sev := sev.kept hst; have bx00 := bx00.kept hst; have bx01 := bx01.kept hst; have bx02 := bx02.kept hst; (first | (have s4 := s4.kept hst) | skip); (first | (have s5 := s5.kept hst) | skip); (first | (have s6 := s6.kept hst) | skip); (first | (have s7 := s7.kept hst) | skip); clear hst; have d0 := ff.b.h0; have d1 := ff.b.h1; have d2 := ff.b.h2; have cbx00 := bx00.h; have cbx01 := bx01.h; have cbx02 := bx02.h))
  refine (kSolve_pair b G t _ us R N _ (ff.g.kept (by first | exact Kept.rfl' _ | exact kept_alloc _ _ | exact kept_drew _ | exact kept_drewN _ _ | exact (kept_drew _).drewN _)) (sus.kept (by first | exact Kept.rfl' _ | exact kept_alloc _ _ | exact kept_drew _ | exact kept_drewN _ _ | exact (kept_drew _).drewN _)) (by omega) R1 (by omega) N1 HPP.out).mono ?_
  rintro e wx ⟨v4, v5, l4, l5, rfl, o4, o5, kx, c4, c5, hsp⟩
  have hst := Kept.from hcur (by first | exact Kept.rfl' _ | exact kept_alloc _ _ | exact kept_drew _ | exact kept_drewN _ _ | exact (kept_drew _).drewN _) kx
  clear hcur kx
  have hcur := cur wx
  have hkc := hkc.tr hst
  have ff := ff.kept hst
  have sus := sus.kept hst
  have slc := slc.kept hst
  have sev := sev.kept hst
  have bx00 := bx00.kept hst
  have bx01 := bx01.kept hst
  have bx02 := bx02.kept hst
  (first | (have s4 := s4.kept hst) | skip)
  (first | (have s5 := s5.kept hst) | skip)
  (first | (have s6 := s6.kept hst) | skip)
  (first | (have s7 := s7.kept hst) | skip)
  clear hst
  have d0 := ff.b.h0
  have d1 := ff.b.h1
  have d2 := ff.b.h2
  have cbx00 := bx00.h
  have cbx01 := bx01.h
  have cbx02 := bx02.h
  have s4 := o4.sl
  have s5 := o5.sl
  obtain ⟨n4, n5⟩ := solv_len hsp c4 c5 R2 N1
  have HO2 := hid (hsp.only HPP.out)
  clear hsp o4 o5
  go_wp2_with (fail)
  go_region_held3 (fun w' => w'.cell? ⟨w.heap.size, 0, none⟩ = some (.int .i64 P) ∧ w'.cell? ⟨w.heap.size, 1, none⟩ = some (.int .i64 M) ∧ w'.cell? ⟨w.heap.size, 2, none⟩ = some vm ∧ w'.cell? ⟨w.heap.size + 1, 1, none⟩ = some (.slice alc lc.length caplc) ∧ w'.cell? ⟨w.heap.size + 1, 2, none⟩ = some (.slice aev ev.length capev)) (first | (simp [go_sem]; done) | (simp [*]; done))
    (first
      | (go_at_call 23; (with_reducible refine (rMul_p G t P M mod vm _ _ l4 ev _ HO (ff.m.kept (by first | exact Kept.rfl' _ | exact kept_alloc _ _ | exact kept_drew _ | exact kept_drewN _ _ | exact (kept_drew _).drewN _)) (s4.kept (by first | exact Kept.rfl' _ | exact kept_alloc _ _ | exact kept_drew _ | exact kept_drewN _ _ | exact (kept_drew _).drewN _)) (sev.kept (by first | exact Kept.rfl' _ | exact kept_alloc _ _ | exact kept_drew _ | exact kept_drewN _ _ | exact (kept_drew _).drewN _)) (by omega) (by omega)).mono ?_); rintro e wx ⟨v6, l6, rfl, o6, kx, c6, p6⟩; have hst := Kept.from hcur (by first | exact Kept.rfl' _ | exact kept_alloc _ _ | exact kept_drew _ | exact kept_drewN _ _ | exact (kept_drew _).drewN _) kx; clear hcur kx; have hcur := cur wx; have hkc := hkc.tr hst; have ff := ff.kept hst; have sus := sus.kept hst; have slc := slc.kept hst; have sev := sev.kept hst; have bx00 := bx00.kept hst; have bx01 := bx01.kept hst; have bx02 := bx02.kept hst; (first | (have s4 := s4.kept hst) | skip); (first | (have s5 := s5.kept hst) | skip); (first | (have s6 := s6.kept hst) | skip); (first | (have s7 := s7.kept hst) | skip); clear hst; have d0 := ff.b.h0; have d1 := ff.b.h1; have d2 := ff.b.h2; have cbx00 := bx00.h; have cbx01 := bx01.h; have cbx02 := bx02.h; have s6 := o6.sl; have P6 := hid p6; clear p6 o6)
      | (go_at_call 23; (with_reducible refine (rMul_p G t P M mod vm _ _ l5 lc _ HO (ff.m.kept (by first | exact Kept.rfl' _ | exact kept_alloc _ _ | exact kept_drew _ | exact kept_drewN _ _ | exact (kept_drew _).drewN _)) (s5.kept (by first | exact Kept.rfl' _ | exact kept_alloc _ _ | exact kept_drew _ | exact kept_drewN _ _ | exact (kept_drew _).drewN _)) (slc.kept (by first | exact Kept.rfl' _ | exact kept_alloc _ _ | exact kept_drew _ | exact kept_drewN _ _ | exact (kept_drew _).drewN _)) (by omega) (by omega)).mono ?_); rintro e wx ⟨v7, l7, rfl, o7, kx, c7, p7⟩; have hst := Kept.from hcur (by first | exact Kept.rfl' _ | exact kept_alloc _ _ | exact kept_drew _ | exact kept_drewN _ _ | exact (kept_drew _).drewN _) kx; clear hcur kx; have hcur := cur wx; have hkc := hkc.tr hst; have ff := ff.kept hst; have sus := sus.kept hst; have slc := slc.kept hst; have sev := sev.kept hst; have bx00 := bx00.kept hst; have bx01 := bx01.kept hst; have bx02 := bx02.kept hst; (first | (have s4 := s4.kept hst) | skip); (first | (have s5 := s5.kept hst) | skip); (first | (have s6 := s6.kept hst) | skip); (first | (have s7 := s7.kept hst) | skip); clear hst; have d0 := ff.b.h0; have d1 := ff.b.h1; have d2 := ff.b.h2; have cbx00 := bx00.h; have cbx01 := bx01.h; have cbx02 := bx02.h; have s7 := o7.sl; have P7 := hid p7; clear p7 o7)
      | (go_at_call 17; (with_reducible refine (same_eq _ _ l6 l7 _ (s6.kept (by first | exact Kept.rfl' _ | exact kept_alloc _ _ | exact kept_drew _ | exact kept_drewN _ _ | exact (kept_drew _).drewN _)) (s7.kept (by first | exact Kept.rfl' _ | exact kept_alloc _ _ | exact kept_drew _ | exact kept_drewN _ _ | exact (kept_drew _).drewN _)) (t.pl_inj c6 c7 (by rw [P6.out, P7.out, HO2.out]))).mono ?_); rintro e wx ⟨rfl, kx⟩; have hst := Kept.from hcur (by first | exact Kept.rfl' _ | exact kept_alloc _ _ | exact kept_drew _ | exact kept_drewN _ _ | exact (kept_drew _).drewN _) kx; clear hcur kx; have hcur := cur wx; have hkc := hkc.tr hst; have ff := ff.kept hst; have sus := sus.kept hst; have slc := slc.kept hst; have sev := sev.kept hst; have bx00 := bx00.kept hst; have bx01 := bx01.kept hst; have bx02 := bx02.kept hst; (first | (have s4 := s4.kept hst) | skip); (first | (have s5 := s5.kept hst) | skip); (first | (have s6 := s6.kept hst) | skip); (first | (have s7 := s7.kept hst) | skip); clear hst; have d0 := ff.b.h0; have d1 := ff.b.h1; have d2 := ff.b.h2; have cbx00 := bx00.h; have cbx01 := bx01.h; have cbx02 := bx02.h))
  all_goals
    go_wp2_with (fail)
    go_ret
    exact ⟨ret_bool (by first | rfl | (simp; done) | (simp; omega)), hkc⟩
end Go.Proofs.Ytmnbcnbhnclkhaa
