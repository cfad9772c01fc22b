/- The walk of the law KeyequationRecovers. No conditions. -/
import Derived.Test.YtmnbcnbhnclkhaaNgA
namespace Go.Proofs.Ytmnbcnbhnclkhaa
open Go.RowKit Cw

set_option maxRecDepth 100000 in
set_option maxHeartbeats 4000000 in
theorem keyequationRecovers_law (P M : Int) (vm : Value) (mod : List Int) (vxs vys vmm : Value) (xs ys mm : List Int) (k : Int) (w : World) (hvm : Sl w vm mod) (hxs : Sl w vxs xs) (hys : Sl w vys ys) (hmm : Sl w vmm mm) :
    Calls Try.prog 12 #[.agg #[.int .i64 P, .int .i64 M, vm], .agg #[vxs, vys, vmm], .int .i64 k] w fun e w' => e = .returned (.bool true) ∧ Kept w w' := by
  have hkc := kept_alloc w (.cells #[.int .i64 P, .int .i64 M, vm] 24)
  have bb := boxF_new w P M vm 24
  have sm := hvm.kept hkc
  have hkb := kept_alloc (w.alloc (.cells #[.int .i64 P, .int .i64 M, vm] 24)) (.cells #[vxs, vys, vmm] 43)
  have bx00 : Bx ((w.alloc (.cells #[.int .i64 P, .int .i64 M, vm] 24)).alloc (.cells #[vxs, vys, vmm] 43)) (w.heap.size + 1) 0 (vxs) := ⟨by simp, by simp⟩
  have bx01 : Bx ((w.alloc (.cells #[.int .i64 P, .int .i64 M, vm] 24)).alloc (.cells #[vxs, vys, vmm] 43)) (w.heap.size + 1) 1 (vys) := ⟨by simp, by simp⟩
  have bx02 : Bx ((w.alloc (.cells #[.int .i64 P, .int .i64 M, vm] 24)).alloc (.cells #[vxs, vys, vmm] 43)) (w.heap.size + 1) 2 (vmm) := ⟨by simp, by simp⟩
  have bb := bb.kept hkb
  have sm := sm.kept hkb
  have hkc := hkc.tr hkb
  clear hkb
  have sxs := hxs.kept hkc
  obtain ⟨axs, capxs, rfl, qxs1, ⟨qxs2, _⟩, _⟩ := hxs
  unfold maxLen at qxs2
  have sys := hys.kept hkc
  obtain ⟨ays, capys, rfl, qys1, ⟨qys2, _⟩, _⟩ := hys
  unfold maxLen at qys2
  have smm := hmm.kept hkc
  obtain ⟨amm, capmm, rfl, qmm1, ⟨qmm2, _⟩, _⟩ := hmm
  unfold maxLen at qmm2
  go_enter Try.func12, Try.ntmps12
  go_wp2_with (go_at_call 13; (with_reducible refine (alive5_any _).mono ?_); rintro e w1 ⟨rfl, ka⟩; have bb := bb.kept ka; have sm := sm.kept ka; have hkc := hkc.tr ka; have sxs := sxs.kept ka; have sys := sys.kept ka; have smm := smm.kept ka; have bx00 := bx00.kept ka; have bx01 := bx01.kept ka; have bx02 := bx02.kept ka; have d0 := bb.h0; have d1 := bb.h1; have d2 := bb.h2; clear ka)
  by_cases hf : FieldP P M mod
  case neg =>
    have HF := hid hf
    clear hf
    go_wp2_with (go_at_call 14; (with_reducible refine (made5_no P M vm mod _ sm HF.out).mono ?_); rintro e w2 ⟨rfl, k2⟩; have sxs := sxs.kept k2; have sys := sys.kept k2; have smm := smm.kept k2; have bx00 := bx00.kept k2; have bx01 := bx01.kept k2; have bx02 := bx02.kept k2; have cbx00 := bx00.h; have cbx01 := bx01.h; have cbx02 := bx02.h)
    go_quiet (fail)
    go_wp2_with (fail)
    go_ret
    exact ⟨rfl, hkc.tr (k2.drewN _)⟩
  have HF := hid hf
  clear hf
  by_cases hs : Shrt [xs, ys, mm]
  case neg =>
    have HS := hid hs
    clear hs
    go_wp2_with (first
      | (go_at_call 14; (with_reducible refine (made5_yes P M vm mod _ sm HF.out).mono ?_); rintro e w2 ⟨b, G, rfl, g2, t, gP, gM, gm, k2⟩; have HO : Hid (Of G P M mod) := hid ⟨gP, gM, gm⟩; clear gP gM gm; have hkc := hkc.tr k2; have ff : Fw w2 b G w.heap.size P M vm mod := ⟨g2, bb.kept k2, sm.kept k2⟩; have sxs := sxs.kept k2; have sys := sys.kept k2; have smm := smm.kept k2; have bx00 := bx00.kept k2; have bx01 := bx01.kept k2; have bx02 := bx02.kept k2; have cbx00 := bx00.h; have cbx01 := bx01.h; have cbx02 := bx02.h; have d0 := ff.b.h0; have d1 := ff.b.h1; have d2 := ff.b.h2; clear k2 g2 bb sm; have hcur := cur w2))
    go_quiet (fail)
    clear bx00 cbx00
    clear bx01 cbx01
    clear bx02 cbx02
    go_wp2_with (first
      | (go_at_call 15; (with_reducible refine (short_r _ [xs, ys, mm] _ (sllb_three _ _ (drewN_sz _ _) _ _ _ _ _ _ _ _ _ _ (sxs.kept (kept_drewN _ _)) (sys.kept (kept_drewN _ _)) (smm.kept (kept_drewN _ _))) false (.inr ⟨rfl, HS.out⟩)).mono ?_); rintro e w3 ⟨rfl, k3⟩; have hst := Kept.tr (kept_drewN _ _) (Kept.tr (kept_alloc _ _) k3); have hkc := hkc.tr hst; have ff := ff.kept hst; have sxs := sxs.kept hst; have sys := sys.kept hst; have smm := smm.kept hst; clear hst k3 hcur; have hcur := cur w3; have d0 := ff.b.h0; have d1 := ff.b.h1; have d2 := ff.b.h2))
    go_ret
    exact ⟨rfl, hkc⟩
  have HS := hid hs
  have nxs : xs.length ≤ 20 := hs _ (by simp)
  have nys : ys.length ≤ 20 := hs _ (by simp)
  have nmm : mm.length ≤ 20 := hs _ (by simp)
  clear hs
  go_wp2_with (first
    | (go_at_call 14; (with_reducible refine (made5_yes P M vm mod _ sm HF.out).mono ?_); rintro e w2 ⟨b, G, rfl, g2, t, gP, gM, gm, k2⟩; have HO : Hid (Of G P M mod) := hid ⟨gP, gM, gm⟩; clear gP gM gm; have hkc := hkc.tr k2; have ff : Fw w2 b G w.heap.size P M vm mod := ⟨g2, bb.kept k2, sm.kept k2⟩; have sxs := sxs.kept k2; have sys := sys.kept k2; have smm := smm.kept k2; have bx00 := bx00.kept k2; have bx01 := bx01.kept k2; have bx02 := bx02.kept k2; have cbx00 := bx00.h; have cbx01 := bx01.h; have cbx02 := bx02.h; have d0 := ff.b.h0; have d1 := ff.b.h1; have d2 := ff.b.h2; clear k2 g2 bb sm; have hcur := cur w2))
  go_quiet (fail)
  clear bx00 cbx00
  clear bx01 cbx01
  clear bx02 cbx02
  by_cases hl : ys.length = xs.length
  case neg =>
    have tl : ((xs.length : Int) != (ys.length : Int)) = true := by simp; omega
    clear hl
    go_wp2_with (first
      | (go_at_call 15; (with_reducible refine (short_r _ [xs, ys, mm] _ (sllb_three _ _ (drewN_sz _ _) _ _ _ _ _ _ _ _ _ _ (sxs.kept (kept_drewN _ _)) (sys.kept (kept_drewN _ _)) (smm.kept (kept_drewN _ _))) true (.inl ⟨rfl, HS.out⟩)).mono ?_); rintro e w3 ⟨rfl, k3⟩; have hst := Kept.tr (kept_drewN _ _) (Kept.tr (kept_alloc _ _) k3); have hkc := hkc.tr hst; have ff := ff.kept hst; have sxs := sxs.kept hst; have sys := sys.kept hst; have smm := smm.kept hst; clear hst k3 hcur; have hcur := cur w3; have d0 := ff.b.h0; have d1 := ff.b.h1; have d2 := ff.b.h2))
    go_ret
    exact ⟨ret_bool (by first | rfl | (simp; done) | (simp; omega)), hkc⟩
  have tl : ((xs.length : Int) != (ys.length : Int)) = false := by simp; omega
  have HL := hid hl
  clear hl
  by_cases hd : DifP G xs
  case neg =>
    have HD := hid (bif_no hd)
    clear hd
    go_wp2_with (first
      | (go_at_call 15; (with_reducible refine (short_r _ [xs, ys, mm] _ (sllb_three _ _ (drewN_sz _ _) _ _ _ _ _ _ _ _ _ _ (sxs.kept (kept_drewN _ _)) (sys.kept (kept_drewN _ _)) (smm.kept (kept_drewN _ _))) true (.inl ⟨rfl, HS.out⟩)).mono ?_); rintro e w3 ⟨rfl, k3⟩; have hst := Kept.tr (kept_drewN _ _) (Kept.tr (kept_alloc _ _) k3); have hkc := hkc.tr hst; have ff := ff.kept hst; have sxs := sxs.kept hst; have sys := sys.kept hst; have smm := smm.kept hst; clear hst k3 hcur; have hcur := cur w3; have d0 := ff.b.h0; have d1 := ff.b.h1; have d2 := ff.b.h2)
      | (go_at_call 29; (with_reducible refine (rkDif_r G t P M mod vm _ xs false _ HO (sxs.kept (by first | exact Kept.rfl' _ | exact kept_alloc _ _ | exact kept_drew _ | exact kept_drewN _ _ | exact (kept_drew _).drewN _)) (by omega) HD.out).mono ?_); rintro e wx ⟨rfl, kx⟩; have hst := Kept.from hcur (by first | exact Kept.rfl' _ | exact kept_alloc _ _ | exact kept_drew _ | exact kept_drewN _ _ | exact (kept_drew _).drewN _) kx; clear hcur kx; have hcur := cur wx; have hkc := hkc.tr hst; have ff := ff.kept hst; have sxs := sxs.kept hst; have sys := sys.kept hst; have smm := smm.kept hst; (first | (have s4 := s4.kept hst) | skip); (first | (have s5 := s5.kept hst) | skip); clear hst; have d0 := ff.b.h0; have d1 := ff.b.h1; have d2 := ff.b.h2))
    go_ret
    exact ⟨ret_bool (by first | rfl | (simp; done) | (simp; omega)), hkc⟩
  have HD := hid (bif_yes hd)
  have HDD := hid hd
  clear hd
  by_cases hk : k < 0 ∨ (xs.length : Int) < k
  · have hcs : k < 0 ∨ (0 ≤ k ∧ (xs.length : Int) < k) := by omega
    clear hk
    rcases hcs with g1 | ⟨g1, g2⟩
    all_goals
      go_wp2_with (first
        | (go_at_call 15; (with_reducible refine (short_r _ [xs, ys, mm] _ (sllb_three _ _ (drewN_sz _ _) _ _ _ _ _ _ _ _ _ _ (sxs.kept (kept_drewN _ _)) (sys.kept (kept_drewN _ _)) (smm.kept (kept_drewN _ _))) true (.inl ⟨rfl, HS.out⟩)).mono ?_); rintro e w3 ⟨rfl, k3⟩; have hst := Kept.tr (kept_drewN _ _) (Kept.tr (kept_alloc _ _) k3); have hkc := hkc.tr hst; have ff := ff.kept hst; have sxs := sxs.kept hst; have sys := sys.kept hst; have smm := smm.kept hst; clear hst k3 hcur; have hcur := cur w3; have d0 := ff.b.h0; have d1 := ff.b.h1; have d2 := ff.b.h2)
        | (go_at_call 29; (with_reducible refine (rkDif_r G t P M mod vm _ xs true _ HO (sxs.kept (by first | exact Kept.rfl' _ | exact kept_alloc _ _ | exact kept_drew _ | exact kept_drewN _ _ | exact (kept_drew _).drewN _)) (by omega) HD.out).mono ?_); rintro e wx ⟨rfl, kx⟩; have hst := Kept.from hcur (by first | exact Kept.rfl' _ | exact kept_alloc _ _ | exact kept_drew _ | exact kept_drewN _ _ | exact (kept_drew _).drewN _) kx; clear hcur kx; have hcur := cur wx; have hkc := hkc.tr hst; have ff := ff.kept hst; have sxs := sxs.kept hst; have sys := sys.kept hst; have smm := smm.kept hst; (first | (have s4 := s4.kept hst) | skip); (first | (have s5 := s5.kept hst) | skip); clear hst; have d0 := ff.b.h0; have d1 := ff.b.h1; have d2 := ff.b.h2))
      go_ret
      exact ⟨ret_bool (by first | rfl | (simp; done) | (simp; omega)), hkc⟩
  obtain ⟨K, rfl⟩ := Int.eq_ofNat_of_zero_le (show 0 ≤ k by omega)
  have k0 : (0 : Int) ≤ (K : Int) := by omega
  have k1 : (K : Int) ≤ (xs.length : Int) := by omega
  have K1 : K ≤ xs.length := by omega
  clear hk
  obtain ⟨d, hd⟩ : ∃ d, d = (t.pl mm).ln := ⟨_, rfl⟩
  have D1 : Hid ((t.pl mm).ln = d) := hid hd.symm
  have nd : d ≤ 20 := by have := t.pl_ln_le mm; omega
  clear hd
  by_cases hdk : (K : Int) ≤ (d : Int) - 1
  · clear tl
    have tl : ((xs.length : Int) != (ys.length : Int)) = false := by have := HL.out; simp; omega
    go_wp2_with (first
      | (go_at_call 15; (with_reducible refine (short_r _ [xs, ys, mm] _ (sllb_three _ _ (drewN_sz _ _) _ _ _ _ _ _ _ _ _ _ (sxs.kept (kept_drewN _ _)) (sys.kept (kept_drewN _ _)) (smm.kept (kept_drewN _ _))) true (.inl ⟨rfl, HS.out⟩)).mono ?_); rintro e w3 ⟨rfl, k3⟩; have hst := Kept.tr (kept_drewN _ _) (Kept.tr (kept_alloc _ _) k3); have hkc := hkc.tr hst; have ff := ff.kept hst; have sxs := sxs.kept hst; have sys := sys.kept hst; have smm := smm.kept hst; clear hst k3 hcur; have hcur := cur w3; have d0 := ff.b.h0; have d1 := ff.b.h1; have d2 := ff.b.h2)
      | (go_at_call 29; (with_reducible refine (rkDif_r G t P M mod vm _ xs true _ HO (sxs.kept (by first | exact Kept.rfl' _ | exact kept_alloc _ _ | exact kept_drew _ | exact kept_drewN _ _ | exact (kept_drew _).drewN _)) (by omega) HD.out).mono ?_); rintro e wx ⟨rfl, kx⟩; have hst := Kept.from hcur (by first | exact Kept.rfl' _ | exact kept_alloc _ _ | exact kept_drew _ | exact kept_drewN _ _ | exact (kept_drew _).drewN _) kx; clear hcur kx; have hcur := cur wx; have hkc := hkc.tr hst; have ff := ff.kept hst; have sxs := sxs.kept hst; have sys := sys.kept hst; have smm := smm.kept hst; (first | (have s4 := s4.kept hst) | skip); (first | (have s5 := s5.kept hst) | skip); clear hst; have d0 := ff.b.h0; have d1 := ff.b.h1; have d2 := ff.b.h2)
      | (go_at_call 37; (with_reducible refine (rDegree_p G t P M mod vm _ mm _ HO (smm.kept (by first | exact Kept.rfl' _ | exact kept_alloc _ _ | exact kept_drew _ | exact kept_drewN _ _ | exact (kept_drew _).drewN _)) (by omega)).mono ?_); rintro e wx ⟨rfl, kx⟩; have hst := Kept.from hcur (by first | exact Kept.rfl' _ | exact kept_alloc _ _ | exact kept_drew _ | exact kept_drewN _ _ | exact (kept_drew _).drewN _) kx; clear hcur kx; have hcur := cur wx; have hkc := hkc.tr hst; have ff := ff.kept hst; have sxs := sxs.kept hst; have sys := sys.kept hst; have smm := smm.kept hst; (first | (have s4 := s4.kept hst) | skip); (first | (have s5 := s5.kept hst) | skip); clear hst; have d0 := ff.b.h0; have d1 := ff.b.h1; have d2 := ff.b.h2; rw [D1.out]))
    go_ret
    exact ⟨ret_bool (by first | rfl | (simp; done) | (simp; omega)), hkc⟩
  have hdk2 : (d : Int) - 1 < (K : Int) := by omega
  have HDK : Hid ((t.pl mm).ln ≤ K) := hid (by rw [D1.out]; omega)
  obtain ⟨c, hc⟩ : ∃ c, c = Pl.cnt (dsS G mm xs ys) xs.length := ⟨_, rfl⟩
  have nc : c ≤ 20 := by have := cnt_le (dsS G mm xs ys) xs.length; omega
  have D2 : Hid (Pl.cnt (dsS G mm xs ys) xs.length = c) := hid hc.symm
  have w1' : IntKind.i64.wrap (2 * (c : Int)) = 2 * (c : Int) := IntWalk.i64_in _ (by omega)
  have w2' : IntKind.i64.wrap ((xs.length : Int) - (K : Int)) = (xs.length : Int) - (K : Int) := IntWalk.i64_in _ (by omega)
  clear hc hdk
  by_cases hck : (xs.length : Int) - (K : Int) < 2 * (c : Int)
  · have tt := hck
    clear hck
    go_wp2_with (first
      | (go_at_call 15; (with_reducible refine (short_r _ [xs, ys, mm] _ (sllb_three _ _ (drewN_sz _ _) _ _ _ _ _ _ _ _ _ _ (sxs.kept (kept_drewN _ _)) (sys.kept (kept_drewN _ _)) (smm.kept (kept_drewN _ _))) true (.inl ⟨rfl, HS.out⟩)).mono ?_); rintro e w3 ⟨rfl, k3⟩; have hst := Kept.tr (kept_drewN _ _) (Kept.tr (kept_alloc _ _) k3); have hkc := hkc.tr hst; have ff := ff.kept hst; have sxs := sxs.kept hst; have sys := sys.kept hst; have smm := smm.kept hst; clear hst k3 hcur; have hcur := cur w3; have d0 := ff.b.h0; have d1 := ff.b.h1; have d2 := ff.b.h2)
      | (go_at_call 29; (with_reducible refine (rkDif_r G t P M mod vm _ xs true _ HO (sxs.kept (by first | exact Kept.rfl' _ | exact kept_alloc _ _ | exact kept_drew _ | exact kept_drewN _ _ | exact (kept_drew _).drewN _)) (by omega) HD.out).mono ?_); rintro e wx ⟨rfl, kx⟩; have hst := Kept.from hcur (by first | exact Kept.rfl' _ | exact kept_alloc _ _ | exact kept_drew _ | exact kept_drewN _ _ | exact (kept_drew _).drewN _) kx; clear hcur kx; have hcur := cur wx; have hkc := hkc.tr hst; have ff := ff.kept hst; have sxs := sxs.kept hst; have sys := sys.kept hst; have smm := smm.kept hst; (first | (have s4 := s4.kept hst) | skip); (first | (have s5 := s5.kept hst) | skip); clear hst; have d0 := ff.b.h0; have d1 := ff.b.h1; have d2 := ff.b.h2)
      | (go_at_call 37; (with_reducible refine (rDegree_p G t P M mod vm _ mm _ HO (smm.kept (by first | exact Kept.rfl' _ | exact kept_alloc _ _ | exact kept_drew _ | exact kept_drewN _ _ | exact (kept_drew _).drewN _)) (by omega)).mono ?_); rintro e wx ⟨rfl, kx⟩; have hst := Kept.from hcur (by first | exact Kept.rfl' _ | exact kept_alloc _ _ | exact kept_drew _ | exact kept_drewN _ _ | exact (kept_drew _).drewN _) kx; clear hcur kx; have hcur := cur wx; have hkc := hkc.tr hst; have ff := ff.kept hst; have sxs := sxs.kept hst; have sys := sys.kept hst; have smm := smm.kept hst; (first | (have s4 := s4.kept hst) | skip); (first | (have s5 := s5.kept hst) | skip); clear hst; have d0 := ff.b.h0; have d1 := ff.b.h1; have d2 := ff.b.h2; rw [D1.out])
      | (go_at_call 38; (with_reducible refine (rkDist_r G t P M mod vm _ _ _ mm xs ys _ HO (ff.m.kept (by first | exact Kept.rfl' _ | exact kept_alloc _ _ | exact kept_drew _ | exact kept_drewN _ _ | exact (kept_drew _).drewN _)) (smm.kept (by first | exact Kept.rfl' _ | exact kept_alloc _ _ | exact kept_drew _ | exact kept_drewN _ _ | exact (kept_drew _).drewN _)) (sxs.kept (by first | exact Kept.rfl' _ | exact kept_alloc _ _ | exact kept_drew _ | exact kept_drewN _ _ | exact (kept_drew _).drewN _)) (sys.kept (by first | exact Kept.rfl' _ | exact kept_alloc _ _ | exact kept_drew _ | exact kept_drewN _ _ | exact (kept_drew _).drewN _)) HL.out (by omega) (by omega)).mono ?_); rintro e wx ⟨rfl, kx⟩; have hst := Kept.from hcur (by first | exact Kept.rfl' _ | exact kept_alloc _ _ | exact kept_drew _ | exact kept_drewN _ _ | exact (kept_drew _).drewN _) kx; clear hcur kx; have hcur := cur wx; have hkc := hkc.tr hst; have ff := ff.kept hst; have sxs := sxs.kept hst; have sys := sys.kept hst; have smm := smm.kept hst; (first | (have s4 := s4.kept hst) | skip); (first | (have s5 := s5.kept hst) | skip); clear hst; have d0 := ff.b.h0; have d1 := ff.b.h1; have d2 := ff.b.h2; rw [D2.out]))
    go_ret
    exact ⟨ret_bool (by first | rfl | (simp; done) | (simp; omega)), hkc⟩
  have hck2 : 2 * (c : Int) ≤ (xs.length : Int) - (K : Int) := by omega
  have HCK : Hid (2 * Pl.cnt (dsS G mm xs ys) xs.length ≤ xs.length - K) := hid (by rw [D2.out]; omega)
  have HDE : Hid (∀ i j, i < j → j < xs.length → inn G.q (xs.getD i 0) ≠ inn G.q (xs.getD j 0)) := hid (fun i j h1 h2 e => HDD.out j i h1 h2 e.symm)
  clear hck
  go_wp2_with (first
    | (go_at_call 15; (with_reducible refine (short_r _ [xs, ys, mm] _ (sllb_three _ _ (drewN_sz _ _) _ _ _ _ _ _ _ _ _ _ (sxs.kept (kept_drewN _ _)) (sys.kept (kept_drewN _ _)) (smm.kept (kept_drewN _ _))) true (.inl ⟨rfl, HS.out⟩)).mono ?_); rintro e w3 ⟨rfl, k3⟩; have hst := Kept.tr (kept_drewN _ _) (Kept.tr (kept_alloc _ _) k3); have hkc := hkc.tr hst; have ff := ff.kept hst; have sxs := sxs.kept hst; have sys := sys.kept hst; have smm := smm.kept hst; clear hst k3 hcur; have hcur := cur w3; have d0 := ff.b.h0; have d1 := ff.b.h1; have d2 := ff.b.h2)
    | (go_at_call 29; (with_reducible refine (rkDif_r G t P M mod vm _ xs true _ HO (sxs.kept (by first | exact Kept.rfl' _ | exact kept_alloc _ _ | exact kept_drew _ | exact kept_drewN _ _ | exact (kept_drew _).drewN _)) (by omega) HD.out).mono ?_); rintro e wx ⟨rfl, kx⟩; have hst := Kept.from hcur (by first | exact Kept.rfl' _ | exact kept_alloc _ _ | exact kept_drew _ | exact kept_drewN _ _ | exact (kept_drew _).drewN _) kx; clear hcur kx; have hcur := cur wx; have hkc := hkc.tr hst; have ff := ff.kept hst; have sxs := sxs.kept hst; have sys := sys.kept hst; have smm := smm.kept hst; (first | (have s4 := s4.kept hst) | skip); (first | (have s5 := s5.kept hst) | skip); clear hst; have d0 := ff.b.h0; have d1 := ff.b.h1; have d2 := ff.b.h2)
    | (go_at_call 37; (with_reducible refine (rDegree_p G t P M mod vm _ mm _ HO (smm.kept (by first | exact Kept.rfl' _ | exact kept_alloc _ _ | exact kept_drew _ | exact kept_drewN _ _ | exact (kept_drew _).drewN _)) (by omega)).mono ?_); rintro e wx ⟨rfl, kx⟩; have hst := Kept.from hcur (by first | exact Kept.rfl' _ | exact kept_alloc _ _ | exact kept_drew _ | exact kept_drewN _ _ | exact (kept_drew _).drewN _) kx; clear hcur kx; have hcur := cur wx; have hkc := hkc.tr hst; have ff := ff.kept hst; have sxs := sxs.kept hst; have sys := sys.kept hst; have smm := smm.kept hst; (first | (have s4 := s4.kept hst) | skip); (first | (have s5 := s5.kept hst) | skip); clear hst; have d0 := ff.b.h0; have d1 := ff.b.h1; have d2 := ff.b.h2; rw [D1.out])
    | (go_at_call 38; (with_reducible refine (rkDist_r G t P M mod vm _ _ _ mm xs ys _ HO (ff.m.kept (by first | exact Kept.rfl' _ | exact kept_alloc _ _ | exact kept_drew _ | exact kept_drewN _ _ | exact (kept_drew _).drewN _)) (smm.kept (by first | exact Kept.rfl' _ | exact kept_alloc _ _ | exact kept_drew _ | exact kept_drewN _ _ | exact (kept_drew _).drewN _)) (sxs.kept (by first | exact Kept.rfl' _ | exact kept_alloc _ _ | exact kept_drew _ | exact kept_drewN _ _ | exact (kept_drew _).drewN _)) (sys.kept (by first | exact Kept.rfl' _ | exact kept_alloc _ _ | exact kept_drew _ | exact kept_drewN _ _ | exact (kept_drew _).drewN _)) HL.out (by omega) (by omega)).mono ?_); rintro e wx ⟨rfl, kx⟩; have hst := Kept.from hcur (by first | exact Kept.rfl' _ | exact kept_alloc _ _ | exact kept_drew _ | exact kept_drewN _ _ | exact (kept_drew _).drewN _) kx; clear hcur kx; have hcur := cur wx; have hkc := hkc.tr hst; have ff := ff.kept hst; have sxs := sxs.kept hst; have sys := sys.kept hst; have smm := smm.kept hst; (first | (have s4 := s4.kept hst) | skip); (first | (have s5 := s5.kept hst) | skip); clear hst; have d0 := ff.b.h0; have d1 := ff.b.h1; have d2 := ff.b.h2; rw [D2.out])
    | (go_at_call 39; (with_reducible refine (kGao_p b G t _ _ xs ys mm K _ (ff.g.kept (by first | exact Kept.rfl' _ | exact kept_alloc _ _ | exact kept_drew _ | exact kept_drewN _ _ | exact (kept_drew _).drewN _)) (sxs.kept (by first | exact Kept.rfl' _ | exact kept_alloc _ _ | exact kept_drew _ | exact kept_drewN _ _ | exact (kept_drew _).drewN _)) (sys.kept (by first | exact Kept.rfl' _ | exact kept_alloc _ _ | exact kept_drew _ | exact kept_drewN _ _ | exact (kept_drew _).drewN _)) HL.out (by omega) HDE.out K1 HDK.out HCK.out).mono ?_); rintro e wx ⟨v4, l4, rfl, o4, kx, c4, p4⟩; have hst := Kept.from hcur (by first | exact Kept.rfl' _ | exact kept_alloc _ _ | exact kept_drew _ | exact kept_drewN _ _ | exact (kept_drew _).drewN _) kx; clear hcur kx; have hcur := cur wx; have hkc := hkc.tr hst; have ff := ff.kept hst; have sxs := sxs.kept hst; have sys := sys.kept hst; have smm := smm.kept hst; (first | (have s4 := s4.kept hst) | skip); (first | (have s5 := s5.kept hst) | skip); clear hst; have d0 := ff.b.h0; have d1 := ff.b.h1; have d2 := ff.b.h2; have s4 := o4.sl; have P4 := hid p4; clear p4 o4)
    | (go_at_call 20; (with_reducible refine (rCanon_p G t P M mod vm _ mm _ HO (smm.kept (by first | exact Kept.rfl' _ | exact kept_alloc _ _ | exact kept_drew _ | exact kept_drewN _ _ | exact (kept_drew _).drewN _)) (by omega)).mono ?_); rintro e wx ⟨v5, l5, rfl, o5, kx, c5, p5⟩; have hst := Kept.from hcur (by first | exact Kept.rfl' _ | exact kept_alloc _ _ | exact kept_drew _ | exact kept_drewN _ _ | exact (kept_drew _).drewN _) kx; clear hcur kx; have hcur := cur wx; have hkc := hkc.tr hst; have ff := ff.kept hst; have sxs := sxs.kept hst; have sys := sys.kept hst; have smm := smm.kept hst; (first | (have s4 := s4.kept hst) | skip); (first | (have s5 := s5.kept hst) | skip); clear hst; have d0 := ff.b.h0; have d1 := ff.b.h1; have d2 := ff.b.h2; have s5 := o5.sl; have P5 := hid p5; clear p5 o5)
    | (go_at_call 17; (with_reducible refine (same_eq _ _ l4 l5 _ (s4.kept (by first | exact Kept.rfl' _ | exact kept_alloc _ _ | exact kept_drew _ | exact kept_drewN _ _ | exact (kept_drew _).drewN _)) (s5.kept (by first | exact Kept.rfl' _ | exact kept_alloc _ _ | exact kept_drew _ | exact kept_drewN _ _ | exact (kept_drew _).drewN _)) (t.pl_inj c4 c5 (by rw [P4.out, P5.out]))).mono ?_); rintro e wx ⟨rfl, kx⟩; have hst := Kept.from hcur (by first | exact Kept.rfl' _ | exact kept_alloc _ _ | exact kept_drew _ | exact kept_drewN _ _ | exact (kept_drew _).drewN _) kx; clear hcur kx; have hcur := cur wx; have hkc := hkc.tr hst; have ff := ff.kept hst; have sxs := sxs.kept hst; have sys := sys.kept hst; have smm := smm.kept hst; (first | (have s4 := s4.kept hst) | skip); (first | (have s5 := s5.kept hst) | skip); clear hst; have d0 := ff.b.h0; have d1 := ff.b.h1; have d2 := ff.b.h2))
  go_ret
  exact ⟨ret_bool (by first | rfl | (simp; done) | (simp; omega)), hkc⟩
end Go.Proofs.Ytmnbcnbhnclkhaa
