/- The walk of the law PolyGcds. No conditions. -/
import Derived.Test.YtjoednmoginhpaaNe
import Derived.Test.YtjoednmoginhpaaKh
import Derived.Test.YtjoednmoginhpaaQd
namespace Go.Proofs.Ytjoednmoginhpaa
open Go.RowKit Cw

set_option maxRecDepth 100000 in
set_option maxHeartbeats 4000000 in
theorem polyGcds_law (P M : Int) (vm : Value) (mod : List Int) (vp vq vc : Value) (p q c : List Int) (w : World) (hvm : Sl w vm mod) (hp : Sl w vp p) (hq : Sl w vq q) (hc : Sl w vc c) :
    Calls Try.prog 15 #[.agg #[.int .i64 P, .int .i64 M, vm], .agg #[vp, vq, vc]] w fun e w' => e = .returned (.bool true) ∧ Kept w w' := by
  have hkc := kept_alloc w (.cells #[.int .i64 P, .int .i64 M, vm] 24)
  have bb := boxF_new w P M vm 24
  have sm := hvm.kept hkc
  have hkb := kept_alloc (w.alloc (.cells #[.int .i64 P, .int .i64 M, vm] 24)) (.cells #[vp, vq, vc] 60)
  have bx0 : Bx ((w.alloc (.cells #[.int .i64 P, .int .i64 M, vm] 24)).alloc (.cells #[vp, vq, vc] 60)) (w.heap.size + 1) 0 vp := ⟨by simp, by simp⟩
  have bx1 : Bx ((w.alloc (.cells #[.int .i64 P, .int .i64 M, vm] 24)).alloc (.cells #[vp, vq, vc] 60)) (w.heap.size + 1) 1 vq := ⟨by simp, by simp⟩
  have bx2 : Bx ((w.alloc (.cells #[.int .i64 P, .int .i64 M, vm] 24)).alloc (.cells #[vp, vq, vc] 60)) (w.heap.size + 1) 2 vc := ⟨by simp, by simp⟩
  have bb := bb.kept hkb
  have sm := sm.kept hkb
  have hkc := hkc.tr hkb
  clear hkb
  have sp := hp.kept hkc
  obtain ⟨ap, capp, rfl, qp1, ⟨qp2, _⟩, _⟩ := hp
  unfold maxLen at qp2
  have sq := hq.kept hkc
  obtain ⟨aq, capq, rfl, qq1, ⟨qq2, _⟩, _⟩ := hq
  unfold maxLen at qq2
  have sc := hc.kept hkc
  obtain ⟨ac, capc, rfl, qc1, ⟨qc2, _⟩, _⟩ := hc
  unfold maxLen at qc2
  go_enter Try.func15, Try.ntmps15
  go_wp2_with (go_at_call 20; (with_reducible refine (alive5_any _).mono ?_); rintro e w1 ⟨rfl, ka⟩; have bb := bb.kept ka; have sm := sm.kept ka; have hkc := hkc.tr ka; have sp := sp.kept ka; have sq := sq.kept ka; have sc := sc.kept ka; have bx0 := bx0.kept ka; have bx1 := bx1.kept ka; have bx2 := bx2.kept ka; have d0 := bb.h0; have d1 := bb.h1; have d2 := bb.h2; clear ka)
  by_cases hf : FieldP P M mod
  case neg =>
    have HF := hid hf
    clear hf
    go_wp2_with (go_at_call 21; (with_reducible refine (made5_no P M vm mod _ sm HF.out).mono ?_); rintro e w2 ⟨rfl, k2⟩; have bx0 := bx0.kept k2; have bc0 := bx0.h; have bx1 := bx1.kept k2; have bc1 := bx1.h; have bx2 := bx2.kept k2; have bc2 := bx2.h)
    go_quiet (fail)
    go_wp2_with (fail)
    go_ret
    exact ⟨rfl, hkc.tr (k2.drewN _)⟩
  have HF := hid hf
  clear hf
  by_cases hs : Shrt [p, q, c]
  case neg =>
    have HS := hid hs
    clear hs
    go_wp2_with (first
      | (go_at_call 21; (with_reducible refine (made5_yes P M vm mod _ sm HF.out).mono ?_); rintro e w2 ⟨b, G, rfl, g2, t, gP, gM, gm, k2⟩; have HO : Hid (Of G P M mod) := hid ⟨gP, gM, gm⟩; clear gP gM gm; have hkc := hkc.tr k2; have ff : Fw w2 b G w.heap.size P M vm mod := ⟨g2, bb.kept k2, sm.kept k2⟩; have sp := sp.kept k2; have sq := sq.kept k2; have sc := sc.kept k2; have bx0 := bx0.kept k2; have bx1 := bx1.kept k2; have bx2 := bx2.kept k2; have bc0 := bx0.h; have bc1 := bx1.h; have bc2 := bx2.h; have d0 := ff.b.h0; have d1 := ff.b.h1; have d2 := ff.b.h2; clear k2 g2 bb sm; have hcur := cur w2))
    go_quiet (fail)
    clear bx0 bc0
    clear bx1 bc1
    clear bx2 bc2
    go_wp2_with (first
      | (go_at_call 22; (with_reducible refine (short_r _ [p, q, c] _ (sllb_three _ _ (drewN_sz _ _) _ _ _ _ _ _ _ _ _ _ (sp.kept (kept_drewN _ _)) (sq.kept (kept_drewN _ _)) (sc.kept (kept_drewN _ _))) false (.inr ⟨rfl, HS.out⟩)).mono ?_); rintro e w3 ⟨rfl, k3⟩; have hst := Kept.tr (kept_drewN _ _) (Kept.tr (kept_alloc _ _) k3); have hkc := hkc.tr hst; have ff := ff.kept hst; have sp := sp.kept hst; have sq := sq.kept hst; have sc := sc.kept hst; clear hst k3 hcur; have hcur := cur w3; have d0 := ff.b.h0; have d1 := ff.b.h1; have d2 := ff.b.h2))
    go_ret
    exact ⟨rfl, hkc⟩
  have HS := hid hs
  have np : p.length ≤ 24 := hs _ (by simp)
  have nq : q.length ≤ 24 := hs _ (by simp)
  have nc : c.length ≤ 24 := hs _ (by simp)
  clear hs
  go_wp2_with (first
    | (go_at_call 21; (with_reducible refine (made5_yes P M vm mod _ sm HF.out).mono ?_); rintro e w2 ⟨b, G, rfl, g2, t, gP, gM, gm, k2⟩; have HO : Hid (Of G P M mod) := hid ⟨gP, gM, gm⟩; clear gP gM gm; have hkc := hkc.tr k2; have ff : Fw w2 b G w.heap.size P M vm mod := ⟨g2, bb.kept k2, sm.kept k2⟩; have sp := sp.kept k2; have sq := sq.kept k2; have sc := sc.kept k2; have bx0 := bx0.kept k2; have bx1 := bx1.kept k2; have bx2 := bx2.kept k2; have bc0 := bx0.h; have bc1 := bx1.h; have bc2 := bx2.h; have d0 := ff.b.h0; have d1 := ff.b.h1; have d2 := ff.b.h2; clear k2 g2 bb sm; have hcur := cur w2))
  go_quiet (fail)
  clear bx0 bc0
  clear bx1 bc1
  clear bx2 bc2
  go_wp2_with (first
    | (go_at_call 22; (with_reducible refine (short_r _ [p, q, c] _ (sllb_three _ _ (drewN_sz _ _) _ _ _ _ _ _ _ _ _ _ (sp.kept (kept_drewN _ _)) (sq.kept (kept_drewN _ _)) (sc.kept (kept_drewN _ _))) true (.inl ⟨rfl, HS.out⟩)).mono ?_); rintro e w3 ⟨rfl, k3⟩; have hst := Kept.tr (kept_drewN _ _) (Kept.tr (kept_alloc _ _) k3); have hkc := hkc.tr hst; have ff := ff.kept hst; have sp := sp.kept hst; have sq := sq.kept hst; have sc := sc.kept hst; clear hst k3 hcur; have hcur := cur w3; have d0 := ff.b.h0; have d1 := ff.b.h1; have d2 := ff.b.h2)
    | (go_at_call 52; (with_reducible refine (gcd_p b G t _ _ p q _ ff.g sp sq (by omega) (by omega)).mono ?_); rintro e wx ⟨v3, l3, rfl, o3, kx, c3, p3⟩; have hst := Kept.from hcur (by first | exact Kept.rfl' _ | exact kept_alloc _ _ | exact kept_drew _ | exact kept_drewN _ _ | exact (kept_drew _).drewN _) kx; clear hcur kx; have hcur := cur wx; have hkc := hkc.tr hst; have ff := ff.kept hst; have sp := sp.kept hst; have sq := sq.kept hst; have sc := sc.kept hst; (first | (have s3 := s3.kept hst) | skip); (first | (have s4 := s4.kept hst) | skip); clear hst; have d0 := ff.b.h0; have d1 := ff.b.h1; have d2 := ff.b.h2; have s3 := o3.sl; have P3 := hid p3; clear p3 o3))
  by_cases hz : t.pl p = 0 ∧ t.pl q = 0
  · have hd1 : ((t.pl p).ln : Int) - 1 < 0 := by rw [hz.1, Pl.ln_zero]; omega
    have hd2 : ((t.pl q).ln : Int) - 1 < 0 := by rw [hz.2, Pl.ln_zero]; omega
    have E3 : l3 = [] := (t.pl_zero c3).1 (by rw [P3.out]; exact Pl.gcd_eq_zero.2 hz)
    subst E3
    have z3 := s3
    obtain ⟨a3, cp3, rfl, _⟩ := z3
    clear hz
    go_wp2_with (first
      | (go_at_call 24; (with_reducible refine (rDegree_p G t P M mod vm _ p _ HO (sp.kept (by first | exact Kept.rfl' _ | exact kept_alloc _ _ | exact kept_drew _ | exact kept_drewN _ _ | exact (kept_drew _).drewN _)) (by omega)).mono ?_); rintro e wx ⟨rfl, kx⟩; have hst := Kept.from hcur (by first | exact Kept.rfl' _ | exact kept_alloc _ _ | exact kept_drew _ | exact kept_drewN _ _ | exact (kept_drew _).drewN _) kx; clear hcur kx; have hcur := cur wx; have hkc := hkc.tr hst; have ff := ff.kept hst; have sp := sp.kept hst; have sq := sq.kept hst; have sc := sc.kept hst; (first | (have s3 := s3.kept hst) | skip); (first | (have s4 := s4.kept hst) | skip); clear hst; have d0 := ff.b.h0; have d1 := ff.b.h1; have d2 := ff.b.h2)
      | (go_at_call 24; (with_reducible refine (rDegree_p G t P M mod vm _ q _ HO (sq.kept (by first | exact Kept.rfl' _ | exact kept_alloc _ _ | exact kept_drew _ | exact kept_drewN _ _ | exact (kept_drew _).drewN _)) (by omega)).mono ?_); rintro e wx ⟨rfl, kx⟩; have hst := Kept.from hcur (by first | exact Kept.rfl' _ | exact kept_alloc _ _ | exact kept_drew _ | exact kept_drewN _ _ | exact (kept_drew _).drewN _) kx; clear hcur kx; have hcur := cur wx; have hkc := hkc.tr hst; have ff := ff.kept hst; have sp := sp.kept hst; have sq := sq.kept hst; have sc := sc.kept hst; (first | (have s3 := s3.kept hst) | skip); (first | (have s4 := s4.kept hst) | skip); clear hst; have d0 := ff.b.h0; have d1 := ff.b.h1; have d2 := ff.b.h2))
    go_ret
    exact ⟨ret_bool (by simp), hkc⟩
  have GZ : Hid (t.pl l3 ≠ 0) := hid (by rw [P3.out]; exact fun e => hz (Pl.gcd_eq_zero.1 e))
  have n3 : l3.length ≤ 24 := by
    have h1 := t.can_ln' c3 P3.out
    by_cases hp : t.pl p = 0
    · have h2 := Pl.dvd_ln (Pl.gcd_is (t.pl p) (t.pl q)).r (fun e => hz ⟨hp, e⟩)
      have := t.pl_ln_le q
      omega
    · have h2 := Pl.dvd_ln (Pl.gcd_is (t.pl p) (t.pl q)).l hp
      have := t.pl_ln_le p
      omega
  have z3 := s3
  obtain ⟨a3, cp3, rfl, ta3, ⟨tb3, _⟩, _⟩ := z3
  unfold maxLen at tb3
  have t3 : ((l3.length : Int) == 0) = false := beq0 (by have := List.length_pos_iff.2 (fun e => GZ.out ((t.pl_zero c3).2 e)); omega)
  have hd : ((t.pl p).ln : Int) - 1 < 0 ∧ (0 : Int) ≤ ((t.pl q).ln : Int) - 1 ∨ (0 : Int) ≤ ((t.pl p).ln : Int) - 1 := by
    by_cases hp : t.pl p = 0
    · exact .inl ⟨by rw [hp, Pl.ln_zero]; omega, by have := Pl.ln_pos (fun e => hz ⟨hp, e⟩ : t.pl q ≠ 0); omega⟩
    · exact .inr (by have := Pl.ln_pos hp; omega)
  clear hz
  rcases hd with ⟨hd1, hd2⟩ | hd1
  all_goals
    go_wp2_with (first
      | (go_at_call 24; (with_reducible refine (rDegree_p G t P M mod vm _ p _ HO (sp.kept (by first | exact Kept.rfl' _ | exact kept_alloc _ _ | exact kept_drew _ | exact kept_drewN _ _ | exact (kept_drew _).drewN _)) (by omega)).mono ?_); rintro e wx ⟨rfl, kx⟩; have hst := Kept.from hcur (by first | exact Kept.rfl' _ | exact kept_alloc _ _ | exact kept_drew _ | exact kept_drewN _ _ | exact (kept_drew _).drewN _) kx; clear hcur kx; have hcur := cur wx; have hkc := hkc.tr hst; have ff := ff.kept hst; have sp := sp.kept hst; have sq := sq.kept hst; have sc := sc.kept hst; (first | (have s3 := s3.kept hst) | skip); (first | (have s4 := s4.kept hst) | skip); (first | (have s5 := s5.kept hst) | skip); (first | (have s6 := s6.kept hst) | skip); (first | (have s7 := s7.kept hst) | skip); (first | (have s8 := s8.kept hst) | skip); (first | (have s9 := s9.kept hst) | skip); clear hst; have d0 := ff.b.h0; have d1 := ff.b.h1; have d2 := ff.b.h2)
      | (go_at_call 24; (with_reducible refine (rDegree_p G t P M mod vm _ q _ HO (sq.kept (by first | exact Kept.rfl' _ | exact kept_alloc _ _ | exact kept_drew _ | exact kept_drewN _ _ | exact (kept_drew _).drewN _)) (by omega)).mono ?_); rintro e wx ⟨rfl, kx⟩; have hst := Kept.from hcur (by first | exact Kept.rfl' _ | exact kept_alloc _ _ | exact kept_drew _ | exact kept_drewN _ _ | exact (kept_drew _).drewN _) kx; clear hcur kx; have hcur := cur wx; have hkc := hkc.tr hst; have ff := ff.kept hst; have sp := sp.kept hst; have sq := sq.kept hst; have sc := sc.kept hst; (first | (have s3 := s3.kept hst) | skip); (first | (have s4 := s4.kept hst) | skip); (first | (have s5 := s5.kept hst) | skip); (first | (have s6 := s6.kept hst) | skip); (first | (have s7 := s7.kept hst) | skip); (first | (have s8 := s8.kept hst) | skip); (first | (have s9 := s9.kept hst) | skip); clear hst; have d0 := ff.b.h0; have d1 := ff.b.h1; have d2 := ff.b.h2)
      | (go_at_call 53; (with_reducible refine (rMonic_p G t P M mod vm _ l3 _ HO (ff.m.kept (by first | exact Kept.rfl' _ | exact kept_alloc _ _ | exact kept_drew _ | exact kept_drewN _ _ | exact (kept_drew _).drewN _)) (s3.kept (by first | exact Kept.rfl' _ | exact kept_alloc _ _ | exact kept_drew _ | exact kept_drewN _ _ | exact (kept_drew _).drewN _)) (by omega)).mono ?_); rintro e wx ⟨v4, l4, rfl, o4, kx, c4, p4⟩; have hst := Kept.from hcur (by first | exact Kept.rfl' _ | exact kept_alloc _ _ | exact kept_drew _ | exact kept_drewN _ _ | exact (kept_drew _).drewN _) kx; clear hcur kx; have hcur := cur wx; have hkc := hkc.tr hst; have ff := ff.kept hst; have sp := sp.kept hst; have sq := sq.kept hst; have sc := sc.kept hst; (first | (have s3 := s3.kept hst) | skip); (first | (have s4 := s4.kept hst) | skip); (first | (have s5 := s5.kept hst) | skip); (first | (have s6 := s6.kept hst) | skip); (first | (have s7 := s7.kept hst) | skip); (first | (have s8 := s8.kept hst) | skip); (first | (have s9 := s9.kept hst) | skip); clear hst; have d0 := ff.b.h0; have d1 := ff.b.h1; have d2 := ff.b.h2; have s4 := o4.sl; have P4 := hid p4; clear p4 o4)
      | (go_at_call 27; (with_reducible refine (same_eq _ _ l3 l4 _ (s3.kept (by first | exact Kept.rfl' _ | exact kept_alloc _ _ | exact kept_drew _ | exact kept_drewN _ _ | exact (kept_drew _).drewN _)) (s4.kept (by first | exact Kept.rfl' _ | exact kept_alloc _ _ | exact kept_drew _ | exact kept_drewN _ _ | exact (kept_drew _).drewN _)) (t.pl_inj c3 c4 (by rw [P4.out, P3.out, (Pl.gcd_is _ _).m]))).mono ?_); rintro e wx ⟨rfl, kx⟩; have hst := Kept.from hcur (by first | exact Kept.rfl' _ | exact kept_alloc _ _ | exact kept_drew _ | exact kept_drewN _ _ | exact (kept_drew _).drewN _) kx; clear hcur kx; have hcur := cur wx; have hkc := hkc.tr hst; have ff := ff.kept hst; have sp := sp.kept hst; have sq := sq.kept hst; have sc := sc.kept hst; (first | (have s3 := s3.kept hst) | skip); (first | (have s4 := s4.kept hst) | skip); (first | (have s5 := s5.kept hst) | skip); (first | (have s6 := s6.kept hst) | skip); (first | (have s7 := s7.kept hst) | skip); (first | (have s8 := s8.kept hst) | skip); (first | (have s9 := s9.kept hst) | skip); clear hst; have d0 := ff.b.h0; have d1 := ff.b.h1; have d2 := ff.b.h2)
      | (go_at_call 54; (with_reducible refine (rRem_p G t P M mod vm _ _ p l3 _ HO (ff.m.kept (by first | exact Kept.rfl' _ | exact kept_alloc _ _ | exact kept_drew _ | exact kept_drewN _ _ | exact (kept_drew _).drewN _)) (sp.kept (by first | exact Kept.rfl' _ | exact kept_alloc _ _ | exact kept_drew _ | exact kept_drewN _ _ | exact (kept_drew _).drewN _)) (s3.kept (by first | exact Kept.rfl' _ | exact kept_alloc _ _ | exact kept_drew _ | exact kept_drewN _ _ | exact (kept_drew _).drewN _)) (by omega) (by omega) GZ.out).mono ?_); rintro e wx ⟨v5, l5, rfl, o5, kx, c5, p5⟩; have hst := Kept.from hcur (by first | exact Kept.rfl' _ | exact kept_alloc _ _ | exact kept_drew _ | exact kept_drewN _ _ | exact (kept_drew _).drewN _) kx; clear hcur kx; have hcur := cur wx; have hkc := hkc.tr hst; have ff := ff.kept hst; have sp := sp.kept hst; have sq := sq.kept hst; have sc := sc.kept hst; (first | (have s3 := s3.kept hst) | skip); (first | (have s4 := s4.kept hst) | skip); (first | (have s5 := s5.kept hst) | skip); (first | (have s6 := s6.kept hst) | skip); (first | (have s7 := s7.kept hst) | skip); (first | (have s8 := s8.kept hst) | skip); (first | (have s9 := s9.kept hst) | skip); clear hst; have d0 := ff.b.h0; have d1 := ff.b.h1; have d2 := ff.b.h2; have s5 := o5.sl; have P5 := hid p5; clear p5 o5; have E5 : l5 = [] := (t.pl_zero c5).1 (by rw [P5.out]; exact (Pl.rem_zero GZ.out).2 (by rw [P3.out]; exact (Pl.gcd_is _ _).l)); subst E5; have z5 := s5; obtain ⟨a5, cp5, rfl, _⟩ := z5)
      | (go_at_call 54; (with_reducible refine (rRem_p G t P M mod vm _ _ q l3 _ HO (ff.m.kept (by first | exact Kept.rfl' _ | exact kept_alloc _ _ | exact kept_drew _ | exact kept_drewN _ _ | exact (kept_drew _).drewN _)) (sq.kept (by first | exact Kept.rfl' _ | exact kept_alloc _ _ | exact kept_drew _ | exact kept_drewN _ _ | exact (kept_drew _).drewN _)) (s3.kept (by first | exact Kept.rfl' _ | exact kept_alloc _ _ | exact kept_drew _ | exact kept_drewN _ _ | exact (kept_drew _).drewN _)) (by omega) (by omega) GZ.out).mono ?_); rintro e wx ⟨v6, l6, rfl, o6, kx, c6, p6⟩; have hst := Kept.from hcur (by first | exact Kept.rfl' _ | exact kept_alloc _ _ | exact kept_drew _ | exact kept_drewN _ _ | exact (kept_drew _).drewN _) kx; clear hcur kx; have hcur := cur wx; have hkc := hkc.tr hst; have ff := ff.kept hst; have sp := sp.kept hst; have sq := sq.kept hst; have sc := sc.kept hst; (first | (have s3 := s3.kept hst) | skip); (first | (have s4 := s4.kept hst) | skip); (first | (have s5 := s5.kept hst) | skip); (first | (have s6 := s6.kept hst) | skip); (first | (have s7 := s7.kept hst) | skip); (first | (have s8 := s8.kept hst) | skip); (first | (have s9 := s9.kept hst) | skip); clear hst; have d0 := ff.b.h0; have d1 := ff.b.h1; have d2 := ff.b.h2; have s6 := o6.sl; have P6 := hid p6; clear p6 o6; have E6 : l6 = [] := (t.pl_zero c6).1 (by rw [P6.out]; exact (Pl.rem_zero GZ.out).2 (by rw [P3.out]; exact (Pl.gcd_is _ _).r)); subst E6; have z6 := s6; obtain ⟨a6, cp6, rfl, _⟩ := z6))
    by_cases hc : t.pl c = 0
    · have hd3 : ((t.pl c).ln : Int) - 1 < 0 := by rw [hc, Pl.ln_zero]; omega
      clear hc
      go_wp2_with (first
        | (go_at_call 24; (with_reducible refine (rDegree_p G t P M mod vm _ c _ HO (sc.kept (by first | exact Kept.rfl' _ | exact kept_alloc _ _ | exact kept_drew _ | exact kept_drewN _ _ | exact (kept_drew _).drewN _)) (by omega)).mono ?_); rintro e wx ⟨rfl, kx⟩; have hst := Kept.from hcur (by first | exact Kept.rfl' _ | exact kept_alloc _ _ | exact kept_drew _ | exact kept_drewN _ _ | exact (kept_drew _).drewN _) kx; clear hcur kx; have hcur := cur wx; have hkc := hkc.tr hst; have ff := ff.kept hst; have sp := sp.kept hst; have sq := sq.kept hst; have sc := sc.kept hst; (first | (have s3 := s3.kept hst) | skip); (first | (have s4 := s4.kept hst) | skip); (first | (have s5 := s5.kept hst) | skip); (first | (have s6 := s6.kept hst) | skip); (first | (have s7 := s7.kept hst) | skip); (first | (have s8 := s8.kept hst) | skip); (first | (have s9 := s9.kept hst) | skip); clear hst; have d0 := ff.b.h0; have d1 := ff.b.h1; have d2 := ff.b.h2))
      go_ret
      exact ⟨ret_bool (by simp), hkc⟩
    have CZ := hid hc
    have hd3 : (0 : Int) ≤ ((t.pl c).ln : Int) - 1 := by have := Pl.ln_pos hc; omega
    clear hc
    by_cases h1 : Pl.Dvd (t.pl c) (t.pl p)
    case neg =>
      have H1 := hid h1
      clear h1
      go_wp2_with (first
        | (go_at_call 24; (with_reducible refine (rDegree_p G t P M mod vm _ c _ HO (sc.kept (by first | exact Kept.rfl' _ | exact kept_alloc _ _ | exact kept_drew _ | exact kept_drewN _ _ | exact (kept_drew _).drewN _)) (by omega)).mono ?_); rintro e wx ⟨rfl, kx⟩; have hst := Kept.from hcur (by first | exact Kept.rfl' _ | exact kept_alloc _ _ | exact kept_drew _ | exact kept_drewN _ _ | exact (kept_drew _).drewN _) kx; clear hcur kx; have hcur := cur wx; have hkc := hkc.tr hst; have ff := ff.kept hst; have sp := sp.kept hst; have sq := sq.kept hst; have sc := sc.kept hst; (first | (have s3 := s3.kept hst) | skip); (first | (have s4 := s4.kept hst) | skip); (first | (have s5 := s5.kept hst) | skip); (first | (have s6 := s6.kept hst) | skip); (first | (have s7 := s7.kept hst) | skip); (first | (have s8 := s8.kept hst) | skip); (first | (have s9 := s9.kept hst) | skip); clear hst; have d0 := ff.b.h0; have d1 := ff.b.h1; have d2 := ff.b.h2)
        | (go_at_call 54; (with_reducible refine (rRem_p G t P M mod vm _ _ p c _ HO (ff.m.kept (by first | exact Kept.rfl' _ | exact kept_alloc _ _ | exact kept_drew _ | exact kept_drewN _ _ | exact (kept_drew _).drewN _)) (sp.kept (by first | exact Kept.rfl' _ | exact kept_alloc _ _ | exact kept_drew _ | exact kept_drewN _ _ | exact (kept_drew _).drewN _)) (sc.kept (by first | exact Kept.rfl' _ | exact kept_alloc _ _ | exact kept_drew _ | exact kept_drewN _ _ | exact (kept_drew _).drewN _)) (by omega) (by omega) CZ.out).mono ?_); rintro e wx ⟨v7, l7, rfl, o7, kx, c7, p7⟩; have hst := Kept.from hcur (by first | exact Kept.rfl' _ | exact kept_alloc _ _ | exact kept_drew _ | exact kept_drewN _ _ | exact (kept_drew _).drewN _) kx; clear hcur kx; have hcur := cur wx; have hkc := hkc.tr hst; have ff := ff.kept hst; have sp := sp.kept hst; have sq := sq.kept hst; have sc := sc.kept hst; (first | (have s3 := s3.kept hst) | skip); (first | (have s4 := s4.kept hst) | skip); (first | (have s5 := s5.kept hst) | skip); (first | (have s6 := s6.kept hst) | skip); (first | (have s7 := s7.kept hst) | skip); (first | (have s8 := s8.kept hst) | skip); (first | (have s9 := s9.kept hst) | skip); clear hst; have d0 := ff.b.h0; have d1 := ff.b.h1; have d2 := ff.b.h2; have s7 := o7.sl; have P7 := hid p7; clear p7 o7; have z7 := s7; obtain ⟨a7, cp7, rfl, ta7, ⟨tb7, _⟩, _⟩ := z7; unfold maxLen at tb7; have ne7 : l7 ≠ [] := (fun e => H1.out ((Pl.rem_zero CZ.out).1 (by rw [← P7.out]; exact (t.pl_zero c7).2 e))); have t7 : (0 : Int) < (l7.length : Int) := (by have := List.length_pos_iff.2 ne7; omega)))
      go_ret
      exact ⟨ret_bool (by simp), hkc⟩
    have H1 := hid h1
    clear h1
    by_cases h2 : Pl.Dvd (t.pl c) (t.pl q)
    case neg =>
      have H2 := hid h2
      clear h2
      go_wp2_with (first
        | (go_at_call 24; (with_reducible refine (rDegree_p G t P M mod vm _ c _ HO (sc.kept (by first | exact Kept.rfl' _ | exact kept_alloc _ _ | exact kept_drew _ | exact kept_drewN _ _ | exact (kept_drew _).drewN _)) (by omega)).mono ?_); rintro e wx ⟨rfl, kx⟩; have hst := Kept.from hcur (by first | exact Kept.rfl' _ | exact kept_alloc _ _ | exact kept_drew _ | exact kept_drewN _ _ | exact (kept_drew _).drewN _) kx; clear hcur kx; have hcur := cur wx; have hkc := hkc.tr hst; have ff := ff.kept hst; have sp := sp.kept hst; have sq := sq.kept hst; have sc := sc.kept hst; (first | (have s3 := s3.kept hst) | skip); (first | (have s4 := s4.kept hst) | skip); (first | (have s5 := s5.kept hst) | skip); (first | (have s6 := s6.kept hst) | skip); (first | (have s7 := s7.kept hst) | skip); (first | (have s8 := s8.kept hst) | skip); (first | (have s9 := s9.kept hst) | skip); clear hst; have d0 := ff.b.h0; have d1 := ff.b.h1; have d2 := ff.b.h2)
        | (go_at_call 54; (with_reducible refine (rRem_p G t P M mod vm _ _ p c _ HO (ff.m.kept (by first | exact Kept.rfl' _ | exact kept_alloc _ _ | exact kept_drew _ | exact kept_drewN _ _ | exact (kept_drew _).drewN _)) (sp.kept (by first | exact Kept.rfl' _ | exact kept_alloc _ _ | exact kept_drew _ | exact kept_drewN _ _ | exact (kept_drew _).drewN _)) (sc.kept (by first | exact Kept.rfl' _ | exact kept_alloc _ _ | exact kept_drew _ | exact kept_drewN _ _ | exact (kept_drew _).drewN _)) (by omega) (by omega) CZ.out).mono ?_); rintro e wx ⟨v7, l7, rfl, o7, kx, c7, p7⟩; have hst := Kept.from hcur (by first | exact Kept.rfl' _ | exact kept_alloc _ _ | exact kept_drew _ | exact kept_drewN _ _ | exact (kept_drew _).drewN _) kx; clear hcur kx; have hcur := cur wx; have hkc := hkc.tr hst; have ff := ff.kept hst; have sp := sp.kept hst; have sq := sq.kept hst; have sc := sc.kept hst; (first | (have s3 := s3.kept hst) | skip); (first | (have s4 := s4.kept hst) | skip); (first | (have s5 := s5.kept hst) | skip); (first | (have s6 := s6.kept hst) | skip); (first | (have s7 := s7.kept hst) | skip); (first | (have s8 := s8.kept hst) | skip); (first | (have s9 := s9.kept hst) | skip); clear hst; have d0 := ff.b.h0; have d1 := ff.b.h1; have d2 := ff.b.h2; have s7 := o7.sl; have P7 := hid p7; clear p7 o7; have E7 : l7 = [] := (t.pl_zero c7).1 (by rw [P7.out]; exact (Pl.rem_zero CZ.out).2 H1.out); subst E7; have z7 := s7; obtain ⟨a7, cp7, rfl, _⟩ := z7)
        | (go_at_call 54; (with_reducible refine (rRem_p G t P M mod vm _ _ q c _ HO (ff.m.kept (by first | exact Kept.rfl' _ | exact kept_alloc _ _ | exact kept_drew _ | exact kept_drewN _ _ | exact (kept_drew _).drewN _)) (sq.kept (by first | exact Kept.rfl' _ | exact kept_alloc _ _ | exact kept_drew _ | exact kept_drewN _ _ | exact (kept_drew _).drewN _)) (sc.kept (by first | exact Kept.rfl' _ | exact kept_alloc _ _ | exact kept_drew _ | exact kept_drewN _ _ | exact (kept_drew _).drewN _)) (by omega) (by omega) CZ.out).mono ?_); rintro e wx ⟨v8, l8, rfl, o8, kx, c8, p8⟩; have hst := Kept.from hcur (by first | exact Kept.rfl' _ | exact kept_alloc _ _ | exact kept_drew _ | exact kept_drewN _ _ | exact (kept_drew _).drewN _) kx; clear hcur kx; have hcur := cur wx; have hkc := hkc.tr hst; have ff := ff.kept hst; have sp := sp.kept hst; have sq := sq.kept hst; have sc := sc.kept hst; (first | (have s3 := s3.kept hst) | skip); (first | (have s4 := s4.kept hst) | skip); (first | (have s5 := s5.kept hst) | skip); (first | (have s6 := s6.kept hst) | skip); (first | (have s7 := s7.kept hst) | skip); (first | (have s8 := s8.kept hst) | skip); (first | (have s9 := s9.kept hst) | skip); clear hst; have d0 := ff.b.h0; have d1 := ff.b.h1; have d2 := ff.b.h2; have s8 := o8.sl; have P8 := hid p8; clear p8 o8; have z8 := s8; obtain ⟨a8, cp8, rfl, ta8, ⟨tb8, _⟩, _⟩ := z8; unfold maxLen at tb8; have ne8 : l8 ≠ [] := (fun e => H2.out ((Pl.rem_zero CZ.out).1 (by rw [← P8.out]; exact (t.pl_zero c8).2 e))); have t8 : (0 : Int) < (l8.length : Int) := (by have := List.length_pos_iff.2 ne8; omega)))
      go_ret
      exact ⟨ret_bool (by simp), hkc⟩
    have H2 := hid h2
    clear h2
    go_wp2_with (first
      | (go_at_call 24; (with_reducible refine (rDegree_p G t P M mod vm _ c _ HO (sc.kept (by first | exact Kept.rfl' _ | exact kept_alloc _ _ | exact kept_drew _ | exact kept_drewN _ _ | exact (kept_drew _).drewN _)) (by omega)).mono ?_); rintro e wx ⟨rfl, kx⟩; have hst := Kept.from hcur (by first | exact Kept.rfl' _ | exact kept_alloc _ _ | exact kept_drew _ | exact kept_drewN _ _ | exact (kept_drew _).drewN _) kx; clear hcur kx; have hcur := cur wx; have hkc := hkc.tr hst; have ff := ff.kept hst; have sp := sp.kept hst; have sq := sq.kept hst; have sc := sc.kept hst; (first | (have s3 := s3.kept hst) | skip); (first | (have s4 := s4.kept hst) | skip); (first | (have s5 := s5.kept hst) | skip); (first | (have s6 := s6.kept hst) | skip); (first | (have s7 := s7.kept hst) | skip); (first | (have s8 := s8.kept hst) | skip); (first | (have s9 := s9.kept hst) | skip); clear hst; have d0 := ff.b.h0; have d1 := ff.b.h1; have d2 := ff.b.h2)
      | (go_at_call 54; (with_reducible refine (rRem_p G t P M mod vm _ _ p c _ HO (ff.m.kept (by first | exact Kept.rfl' _ | exact kept_alloc _ _ | exact kept_drew _ | exact kept_drewN _ _ | exact (kept_drew _).drewN _)) (sp.kept (by first | exact Kept.rfl' _ | exact kept_alloc _ _ | exact kept_drew _ | exact kept_drewN _ _ | exact (kept_drew _).drewN _)) (sc.kept (by first | exact Kept.rfl' _ | exact kept_alloc _ _ | exact kept_drew _ | exact kept_drewN _ _ | exact (kept_drew _).drewN _)) (by omega) (by omega) CZ.out).mono ?_); rintro e wx ⟨v7, l7, rfl, o7, kx, c7, p7⟩; have hst := Kept.from hcur (by first | exact Kept.rfl' _ | exact kept_alloc _ _ | exact kept_drew _ | exact kept_drewN _ _ | exact (kept_drew _).drewN _) kx; clear hcur kx; have hcur := cur wx; have hkc := hkc.tr hst; have ff := ff.kept hst; have sp := sp.kept hst; have sq := sq.kept hst; have sc := sc.kept hst; (first | (have s3 := s3.kept hst) | skip); (first | (have s4 := s4.kept hst) | skip); (first | (have s5 := s5.kept hst) | skip); (first | (have s6 := s6.kept hst) | skip); (first | (have s7 := s7.kept hst) | skip); (first | (have s8 := s8.kept hst) | skip); (first | (have s9 := s9.kept hst) | skip); clear hst; have d0 := ff.b.h0; have d1 := ff.b.h1; have d2 := ff.b.h2; have s7 := o7.sl; have P7 := hid p7; clear p7 o7; have E7 : l7 = [] := (t.pl_zero c7).1 (by rw [P7.out]; exact (Pl.rem_zero CZ.out).2 H1.out); subst E7; have z7 := s7; obtain ⟨a7, cp7, rfl, _⟩ := z7)
      | (go_at_call 54; (with_reducible refine (rRem_p G t P M mod vm _ _ q c _ HO (ff.m.kept (by first | exact Kept.rfl' _ | exact kept_alloc _ _ | exact kept_drew _ | exact kept_drewN _ _ | exact (kept_drew _).drewN _)) (sq.kept (by first | exact Kept.rfl' _ | exact kept_alloc _ _ | exact kept_drew _ | exact kept_drewN _ _ | exact (kept_drew _).drewN _)) (sc.kept (by first | exact Kept.rfl' _ | exact kept_alloc _ _ | exact kept_drew _ | exact kept_drewN _ _ | exact (kept_drew _).drewN _)) (by omega) (by omega) CZ.out).mono ?_); rintro e wx ⟨v8, l8, rfl, o8, kx, c8, p8⟩; have hst := Kept.from hcur (by first | exact Kept.rfl' _ | exact kept_alloc _ _ | exact kept_drew _ | exact kept_drewN _ _ | exact (kept_drew _).drewN _) kx; clear hcur kx; have hcur := cur wx; have hkc := hkc.tr hst; have ff := ff.kept hst; have sp := sp.kept hst; have sq := sq.kept hst; have sc := sc.kept hst; (first | (have s3 := s3.kept hst) | skip); (first | (have s4 := s4.kept hst) | skip); (first | (have s5 := s5.kept hst) | skip); (first | (have s6 := s6.kept hst) | skip); (first | (have s7 := s7.kept hst) | skip); (first | (have s8 := s8.kept hst) | skip); (first | (have s9 := s9.kept hst) | skip); clear hst; have d0 := ff.b.h0; have d1 := ff.b.h1; have d2 := ff.b.h2; have s8 := o8.sl; have P8 := hid p8; clear p8 o8; have E8 : l8 = [] := (t.pl_zero c8).1 (by rw [P8.out]; exact (Pl.rem_zero CZ.out).2 H2.out); subst E8; have z8 := s8; obtain ⟨a8, cp8, rfl, _⟩ := z8)
      | (go_at_call 54; (with_reducible refine (rRem_p G t P M mod vm _ _ l3 c _ HO (ff.m.kept (by first | exact Kept.rfl' _ | exact kept_alloc _ _ | exact kept_drew _ | exact kept_drewN _ _ | exact (kept_drew _).drewN _)) (s3.kept (by first | exact Kept.rfl' _ | exact kept_alloc _ _ | exact kept_drew _ | exact kept_drewN _ _ | exact (kept_drew _).drewN _)) (sc.kept (by first | exact Kept.rfl' _ | exact kept_alloc _ _ | exact kept_drew _ | exact kept_drewN _ _ | exact (kept_drew _).drewN _)) (by omega) (by omega) CZ.out).mono ?_); rintro e wx ⟨v9, l9, rfl, o9, kx, c9, p9⟩; have hst := Kept.from hcur (by first | exact Kept.rfl' _ | exact kept_alloc _ _ | exact kept_drew _ | exact kept_drewN _ _ | exact (kept_drew _).drewN _) kx; clear hcur kx; have hcur := cur wx; have hkc := hkc.tr hst; have ff := ff.kept hst; have sp := sp.kept hst; have sq := sq.kept hst; have sc := sc.kept hst; (first | (have s3 := s3.kept hst) | skip); (first | (have s4 := s4.kept hst) | skip); (first | (have s5 := s5.kept hst) | skip); (first | (have s6 := s6.kept hst) | skip); (first | (have s7 := s7.kept hst) | skip); (first | (have s8 := s8.kept hst) | skip); (first | (have s9 := s9.kept hst) | skip); clear hst; have d0 := ff.b.h0; have d1 := ff.b.h1; have d2 := ff.b.h2; have s9 := o9.sl; have P9 := hid p9; clear p9 o9; have E9 : l9 = [] := (t.pl_zero c9).1 (by rw [P9.out]; exact (Pl.rem_zero CZ.out).2 (by rw [P3.out]; exact (Pl.gcd_is _ _).g _ H1.out H2.out)); subst E9; have z9 := s9; obtain ⟨a9, cp9, rfl, _⟩ := z9))
    go_ret
    exact ⟨ret_bool (by simp), hkc⟩
end Go.Proofs.Ytjoednmoginhpaa
