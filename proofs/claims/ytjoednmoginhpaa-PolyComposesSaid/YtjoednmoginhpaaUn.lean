/- The walk of the law PolyComposes. No conditions. -/
import Derived.Test.YtjoednmoginhpaaNe
import Derived.Test.YtjoednmoginhpaaKk
import Derived.Test.YtjoednmoginhpaaKi
import Derived.Test.YtjoednmoginhpaaQg
namespace Go.Proofs.Ytjoednmoginhpaa
open Go.RowKit Cw

theorem deg_two (a b : Nat) (ha : a ≤ 24) (hb : b ≤ 24) : ∃ m n M N : Int, Hid ((a : Int) - 1 = m ∧ (b : Int) - 1 = n) ∧ (if m < 0 then 0 else m) = M ∧ (if n < 0 then 0 else n) = N ∧ IntKind.i64.wrap (M * N) = M * N ∧ ((a - 1) * (b - 1) ≤ 256 → M * N ≤ 256) ∧ (256 < (a - 1) * (b - 1) → 256 < M * N) := by
  have h1 : (if (a : Int) - 1 < 0 then 0 else (a : Int) - 1) = ((a - 1 : Nat) : Int) := by split <;> omega
  have h2 : (if (b : Int) - 1 < 0 then 0 else (b : Int) - 1) = ((b - 1 : Nat) : Int) := by split <;> omega
  have h3 : (a - 1) * (b - 1) ≤ 24 * 24 := Nat.mul_le_mul (by omega) (by omega)
  refine ⟨_, _, _, _, hid ⟨rfl, rfl⟩, h1, h2, ?_, fun h => ?_, fun h => ?_⟩
  · rw [← Int.natCast_mul]; exact IntWalk.i64_in _ (by omega)
  · rw [← Int.natCast_mul]; exact Int.ofNat_le.2 h
  · rw [← Int.natCast_mul]; exact Int.ofNat_lt.2 h

set_option maxRecDepth 100000 in
set_option maxHeartbeats 4000000 in
theorem polyComposes_law (P M : Int) (vm : Value) (mod : List Int) (vp vq : Value) (p q : List Int) (x : Int) (w : World) (hvm : Sl w vm mod) (hp : Sl w vp p) (hq : Sl w vq q) :
    Calls Try.prog 14 #[.agg #[.int .i64 P, .int .i64 M, vm], .agg #[vp, vq], .int .i64 x] w fun e w' => e = .returned (.bool true) ∧ Kept w w' := by
  have hkc := kept_alloc w (.cells #[.int .i64 P, .int .i64 M, vm] 24)
  have bb := boxF_new w P M vm 24
  have sm := hvm.kept hkc
  have hkb := kept_alloc (w.alloc (.cells #[.int .i64 P, .int .i64 M, vm] 24)) (.cells #[vp, vq] 54)
  have bx0 : Bx ((w.alloc (.cells #[.int .i64 P, .int .i64 M, vm] 24)).alloc (.cells #[vp, vq] 54)) (w.heap.size + 1) 0 vp := ⟨by simp, by simp⟩
  have bx1 : Bx ((w.alloc (.cells #[.int .i64 P, .int .i64 M, vm] 24)).alloc (.cells #[vp, vq] 54)) (w.heap.size + 1) 1 vq := ⟨by simp, by simp⟩
  have bb := bb.kept hkb
  have sm := sm.kept hkb
  have hkc := hkc.tr hkb
  clear hkb
  have sp := hp.kept hkc
  obtain ⟨ap, capp, rfl, qp1, ⟨qp2, _⟩, _⟩ := hp
  unfold maxLen at qp2
  have sq := hq.kept hkc
  obtain ⟨aq, capq, rfl, qq1, ⟨qq2, _⟩, _⟩ := hq
  unfold maxLen at qq2
  go_enter Try.func14, Try.ntmps14
  go_wp2_with (go_at_call 20; (with_reducible refine (alive5_any _).mono ?_); rintro e w1 ⟨rfl, ka⟩; have bb := bb.kept ka; have sm := sm.kept ka; have hkc := hkc.tr ka; have sp := sp.kept ka; have sq := sq.kept ka; have bx0 := bx0.kept ka; have bx1 := bx1.kept ka; have d0 := bb.h0; have d1 := bb.h1; have d2 := bb.h2; clear ka)
  by_cases hf : FieldP P M mod
  case neg =>
    have HF := hid hf
    clear hf
    go_wp2_with (go_at_call 21; (with_reducible refine (made5_no P M vm mod _ sm HF.out).mono ?_); rintro e w2 ⟨rfl, k2⟩; have bx0 := bx0.kept k2; have bc0 := bx0.h; have bx1 := bx1.kept k2; have bc1 := bx1.h)
    go_quiet (fail)
    go_wp2_with (fail)
    go_ret
    exact ⟨rfl, hkc.tr (k2.drewN _)⟩
  have HF := hid hf
  clear hf
  by_cases hs : Shrt [p, q]
  case neg =>
    have HS := hid hs
    clear hs
    go_wp2_with (first
      | (go_at_call 21; (with_reducible refine (made5_yes P M vm mod _ sm HF.out).mono ?_); rintro e w2 ⟨b, G, rfl, g2, t, gP, gM, gm, k2⟩; have HO : Hid (Of G P M mod) := hid ⟨gP, gM, gm⟩; clear gP gM gm; have hkc := hkc.tr k2; have ff : Fw w2 b G w.heap.size P M vm mod := ⟨g2, bb.kept k2, sm.kept k2⟩; have sp := sp.kept k2; have sq := sq.kept k2; have bx0 := bx0.kept k2; have bx1 := bx1.kept k2; have bc0 := bx0.h; have bc1 := bx1.h; have d0 := ff.b.h0; have d1 := ff.b.h1; have d2 := ff.b.h2; clear k2 g2 bb sm; have hcur := cur w2))
    go_quiet (fail)
    clear bx0 bc0
    clear bx1 bc1
    go_wp2_with (first
      | (go_at_call 22; (with_reducible refine (short_r _ [p, q] _ (sllb_two _ _ (drewN_sz _ _) _ _ _ _ _ _ _ (sp.kept (kept_drewN _ _)) (sq.kept (kept_drewN _ _))) false (.inr ⟨rfl, HS.out⟩)).mono ?_); rintro e w3 ⟨rfl, k3⟩; have hst := Kept.tr (kept_drewN _ _) (Kept.tr (kept_alloc _ _) k3); have hkc := hkc.tr hst; have ff := ff.kept hst; have sp := sp.kept hst; have sq := sq.kept hst; clear hst k3 hcur; have hcur := cur w3; have d0 := ff.b.h0; have d1 := ff.b.h1; have d2 := ff.b.h2))
    go_ret
    exact ⟨rfl, hkc⟩
  have HS := hid hs
  have np : p.length ≤ 24 := hs _ (by simp)
  have nq : q.length ≤ 24 := hs _ (by simp)
  clear hs
  go_wp2_with (first
    | (go_at_call 21; (with_reducible refine (made5_yes P M vm mod _ sm HF.out).mono ?_); rintro e w2 ⟨b, G, rfl, g2, t, gP, gM, gm, k2⟩; have HO : Hid (Of G P M mod) := hid ⟨gP, gM, gm⟩; clear gP gM gm; have hkc := hkc.tr k2; have ff : Fw w2 b G w.heap.size P M vm mod := ⟨g2, bb.kept k2, sm.kept k2⟩; have sp := sp.kept k2; have sq := sq.kept k2; have bx0 := bx0.kept k2; have bx1 := bx1.kept k2; have bc0 := bx0.h; have bc1 := bx1.h; have d0 := ff.b.h0; have d1 := ff.b.h1; have d2 := ff.b.h2; clear k2 g2 bb sm; have hcur := cur w2))
  go_quiet (fail)
  clear bx0 bc0
  clear bx1 bc1
  go_wp2_with (first
    | (go_at_call 22; (with_reducible refine (short_r _ [p, q] _ (sllb_two _ _ (drewN_sz _ _) _ _ _ _ _ _ _ (sp.kept (kept_drewN _ _)) (sq.kept (kept_drewN _ _))) true (.inl ⟨rfl, HS.out⟩)).mono ?_); rintro e w3 ⟨rfl, k3⟩; have hst := Kept.tr (kept_drewN _ _) (Kept.tr (kept_alloc _ _) k3); have hkc := hkc.tr hst; have ff := ff.kept hst; have sp := sp.kept hst; have sq := sq.kept hst; clear hst k3 hcur; have hcur := cur w3; have d0 := ff.b.h0; have d1 := ff.b.h1; have d2 := ff.b.h2))
  obtain ⟨u, hu⟩ : ∃ u, u = evL G q x := ⟨_, rfl⟩
  obtain ⟨y, hy⟩ : ∃ y, y = evL G p u := ⟨_, rfl⟩
  have HU : Hid (evL G q x = u) := hid hu.symm
  have HY : Hid (evL G p u = y) := hid hy.symm
  have H3 : Hid (∀ l, t.pl l = Pl.cmp (t.pl p) (t.pl q) → evL G l x = y) := hid (fun l hl => by
    rw [hy]
    exact (t.evL_of (t.evL_bd _ _) (by rw [t.e_evL, hl, Pl.ev_cmp, hu, t.e_evL])).symm)
  have hlp := t.pl_ln_le p
  have hlq := t.pl_ln_le q
  clear hu hy
  by_cases hb : 256 < ((t.pl p).ln - 1) * ((t.pl q).ln - 1)
  · have HB := hid hb
    have g1 : 1 < (t.pl p).ln := by
      rcases Nat.lt_or_ge 1 (t.pl p).ln with g | g
      · exact g
      · rw [show (t.pl p).ln - 1 = 0 by omega, Nat.zero_mul] at hb; omega
    have g2 : 1 < (t.pl q).ln := by
      rcases Nat.lt_or_ge 1 (t.pl q).ln with g | g
      · exact g
      · rw [show (t.pl q).ln - 1 = 0 by omega, Nat.mul_zero] at hb; omega
    obtain ⟨m, n, M', N', HD, r1, r2, r3, _, r4⟩ := deg_two (t.pl p).ln (t.pl q).ln (by omega) (by omega)
    have r4 := r4 hb
    clear hb g1 g2
    go_wp2_with (first
      | (go_at_call 50; (with_reducible refine (compose_big b G t _ _ p q _ ff.g sp sq (by omega) (by omega) HB.out).mono ?_); rintro e wx ⟨rfl, kx⟩; have hst := Kept.from hcur (by first | exact Kept.rfl' _ | exact kept_alloc _ _ | exact kept_drew _ | exact kept_drewN _ _ | exact (kept_drew _).drewN _) kx; clear hcur kx; have hcur := cur wx; have hkc := hkc.tr hst; have ff := ff.kept hst; have sp := sp.kept hst; have sq := sq.kept hst; (first | (have s3 := s3.kept hst) | skip); (first | (have s4 := s4.kept hst) | skip); clear hst; have d0 := ff.b.h0; have d1 := ff.b.h1; have d2 := ff.b.h2))
    go_region_held3 (fun w' => w'.cell? ⟨w.heap.size, 0, none⟩ = some (.int .i64 P) ∧ w'.cell? ⟨w.heap.size, 1, none⟩ = some (.int .i64 M) ∧ w'.cell? ⟨w.heap.size, 2, none⟩ = some vm) (first | (simp [go_sem]; done) | (simp [*]; done))
      (first
        | (go_at_call 24; (with_reducible refine (rDegree_p G t P M mod vm _ p _ HO (sp.kept (by first | exact Kept.rfl' _ | exact kept_alloc _ _ | exact kept_drew _ | exact kept_drewN _ _ | exact (kept_drew _).drewN _)) (by omega)).mono ?_); rintro e wx ⟨rfl, kx⟩; have hst := Kept.from hcur (by first | exact Kept.rfl' _ | exact kept_alloc _ _ | exact kept_drew _ | exact kept_drewN _ _ | exact (kept_drew _).drewN _) kx; clear hcur kx; have hcur := cur wx; have hkc := hkc.tr hst; have ff := ff.kept hst; have sp := sp.kept hst; have sq := sq.kept hst; (first | (have s3 := s3.kept hst) | skip); (first | (have s4 := s4.kept hst) | skip); clear hst; have d0 := ff.b.h0; have d1 := ff.b.h1; have d2 := ff.b.h2; rw [HD.out.1])
        | (go_at_call 24; (with_reducible refine (rDegree_p G t P M mod vm _ q _ HO (sq.kept (by first | exact Kept.rfl' _ | exact kept_alloc _ _ | exact kept_drew _ | exact kept_drewN _ _ | exact (kept_drew _).drewN _)) (by omega)).mono ?_); rintro e wx ⟨rfl, kx⟩; have hst := Kept.from hcur (by first | exact Kept.rfl' _ | exact kept_alloc _ _ | exact kept_drew _ | exact kept_drewN _ _ | exact (kept_drew _).drewN _) kx; clear hcur kx; have hcur := cur wx; have hkc := hkc.tr hst; have ff := ff.kept hst; have sp := sp.kept hst; have sq := sq.kept hst; (first | (have s3 := s3.kept hst) | skip); (first | (have s4 := s4.kept hst) | skip); clear hst; have d0 := ff.b.h0; have d1 := ff.b.h1; have d2 := ff.b.h2; rw [HD.out.2]))
    all_goals
      go_wp2_with (fail)
      go_ret
      exact ⟨ret_bool (by simp), hkc⟩
  have hb' : ((t.pl p).ln - 1) * ((t.pl q).ln - 1) ≤ 256 := by omega
  have HB := hid hb'
  clear hb
  go_wp2_with (first
    | (go_at_call 50; (with_reducible refine (compose_p b G t _ _ p q _ ff.g sp sq (by omega) (by omega) HB.out).mono ?_); rintro e wx ⟨v3, l3, rfl, o3, kx, c3, p3⟩; have hst := Kept.from hcur (by first | exact Kept.rfl' _ | exact kept_alloc _ _ | exact kept_drew _ | exact kept_drewN _ _ | exact (kept_drew _).drewN _) kx; clear hcur kx; have hcur := cur wx; have hkc := hkc.tr hst; have ff := ff.kept hst; have sp := sp.kept hst; have sq := sq.kept hst; (first | (have s3 := s3.kept hst) | skip); (first | (have s4 := s4.kept hst) | skip); clear hst; have d0 := ff.b.h0; have d1 := ff.b.h1; have d2 := ff.b.h2; have s3 := o3.sl; have P3 := hid p3; clear p3 o3; have n3 : l3.length ≤ 257 := (by have h1 := t.can_ln' c3 P3.out; have h2 := Pl.hor_ln (t.pl p) (t.pl q) (t.pl p).ln (t.pl p).ln; rw [Pl.hor_end (Nat.le_refl _)] at h2; have h3 := HB.out; omega)))
  obtain ⟨m, n, M', N', HD, r1, r2, r3, r4, _⟩ := deg_two (t.pl p).ln (t.pl q).ln (by omega) (by omega)
  have r4 := r4 hb'
  clear hb'
  go_region_held3 (fun w' => w'.cell? ⟨w.heap.size, 0, none⟩ = some (.int .i64 P) ∧ w'.cell? ⟨w.heap.size, 1, none⟩ = some (.int .i64 M) ∧ w'.cell? ⟨w.heap.size, 2, none⟩ = some vm) (first | (simp [go_sem]; done) | (simp [*]; done))
    (first
      | (go_at_call 24; (with_reducible refine (rDegree_p G t P M mod vm _ p _ HO (sp.kept (by first | exact Kept.rfl' _ | exact kept_alloc _ _ | exact kept_drew _ | exact kept_drewN _ _ | exact (kept_drew _).drewN _)) (by omega)).mono ?_); rintro e wx ⟨rfl, kx⟩; have hst := Kept.from hcur (by first | exact Kept.rfl' _ | exact kept_alloc _ _ | exact kept_drew _ | exact kept_drewN _ _ | exact (kept_drew _).drewN _) kx; clear hcur kx; have hcur := cur wx; have hkc := hkc.tr hst; have ff := ff.kept hst; have sp := sp.kept hst; have sq := sq.kept hst; (first | (have s3 := s3.kept hst) | skip); (first | (have s4 := s4.kept hst) | skip); clear hst; have d0 := ff.b.h0; have d1 := ff.b.h1; have d2 := ff.b.h2; rw [HD.out.1])
      | (go_at_call 24; (with_reducible refine (rDegree_p G t P M mod vm _ q _ HO (sq.kept (by first | exact Kept.rfl' _ | exact kept_alloc _ _ | exact kept_drew _ | exact kept_drewN _ _ | exact (kept_drew _).drewN _)) (by omega)).mono ?_); rintro e wx ⟨rfl, kx⟩; have hst := Kept.from hcur (by first | exact Kept.rfl' _ | exact kept_alloc _ _ | exact kept_drew _ | exact kept_drewN _ _ | exact (kept_drew _).drewN _) kx; clear hcur kx; have hcur := cur wx; have hkc := hkc.tr hst; have ff := ff.kept hst; have sp := sp.kept hst; have sq := sq.kept hst; (first | (have s3 := s3.kept hst) | skip); (first | (have s4 := s4.kept hst) | skip); clear hst; have d0 := ff.b.h0; have d1 := ff.b.h1; have d2 := ff.b.h2; rw [HD.out.2]))
  all_goals
    go_wp2_with (fail)
    go_region_held3 (fun w' => w'.cell? ⟨w.heap.size, 0, none⟩ = some (.int .i64 P) ∧ w'.cell? ⟨w.heap.size, 1, none⟩ = some (.int .i64 M) ∧ w'.cell? ⟨w.heap.size, 2, none⟩ = some vm) (first | (simp [go_sem]; done) | (simp [*]; done))
      (first
        | (go_at_call 51; (with_reducible refine (rCompose_p G t P M mod vm _ _ p q _ HO (ff.m.kept (by first | exact Kept.rfl' _ | exact kept_alloc _ _ | exact kept_drew _ | exact kept_drewN _ _ | exact (kept_drew _).drewN _)) (sp.kept (by first | exact Kept.rfl' _ | exact kept_alloc _ _ | exact kept_drew _ | exact kept_drewN _ _ | exact (kept_drew _).drewN _)) (sq.kept (by first | exact Kept.rfl' _ | exact kept_alloc _ _ | exact kept_drew _ | exact kept_drewN _ _ | exact (kept_drew _).drewN _)) (by omega) (by omega)).mono ?_); rintro e wx ⟨v4, l4, rfl, o4, kx, c4, p4⟩; have hst := Kept.from hcur (by first | exact Kept.rfl' _ | exact kept_alloc _ _ | exact kept_drew _ | exact kept_drewN _ _ | exact (kept_drew _).drewN _) kx; clear hcur kx; have hcur := cur wx; have hkc := hkc.tr hst; have ff := ff.kept hst; have sp := sp.kept hst; have sq := sq.kept hst; (first | (have s3 := s3.kept hst) | skip); (first | (have s4 := s4.kept hst) | skip); clear hst; have d0 := ff.b.h0; have d1 := ff.b.h1; have d2 := ff.b.h2; have s4 := o4.sl; have P4 := hid p4; clear p4 o4)
        | (go_at_call 27; (with_reducible refine (same_eq _ _ l3 l4 _ (s3.kept (by first | exact Kept.rfl' _ | exact kept_alloc _ _ | exact kept_drew _ | exact kept_drewN _ _ | exact (kept_drew _).drewN _)) (s4.kept (by first | exact Kept.rfl' _ | exact kept_alloc _ _ | exact kept_drew _ | exact kept_drewN _ _ | exact (kept_drew _).drewN _)) (t.pl_inj c3 c4 (by rw [P3.out, P4.out]))).mono ?_); rintro e wx ⟨rfl, kx⟩; have hst := Kept.from hcur (by first | exact Kept.rfl' _ | exact kept_alloc _ _ | exact kept_drew _ | exact kept_drewN _ _ | exact (kept_drew _).drewN _) kx; clear hcur kx; have hcur := cur wx; have hkc := hkc.tr hst; have ff := ff.kept hst; have sp := sp.kept hst; have sq := sq.kept hst; (first | (have s3 := s3.kept hst) | skip); (first | (have s4 := s4.kept hst) | skip); clear hst; have d0 := ff.b.h0; have d1 := ff.b.h1; have d2 := ff.b.h2)
        | (go_at_call 45; (with_reducible refine (rEval_p G t P M mod vm _ l3 x _ HO (ff.m.kept (by first | exact Kept.rfl' _ | exact kept_alloc _ _ | exact kept_drew _ | exact kept_drewN _ _ | exact (kept_drew _).drewN _)) (s3.kept (by first | exact Kept.rfl' _ | exact kept_alloc _ _ | exact kept_drew _ | exact kept_drewN _ _ | exact (kept_drew _).drewN _)) (by omega)).mono ?_); rintro e wx ⟨rfl, kx⟩; have hst := Kept.from hcur (by first | exact Kept.rfl' _ | exact kept_alloc _ _ | exact kept_drew _ | exact kept_drewN _ _ | exact (kept_drew _).drewN _) kx; clear hcur kx; have hcur := cur wx; have hkc := hkc.tr hst; have ff := ff.kept hst; have sp := sp.kept hst; have sq := sq.kept hst; (first | (have s3 := s3.kept hst) | skip); (first | (have s4 := s4.kept hst) | skip); clear hst; have d0 := ff.b.h0; have d1 := ff.b.h1; have d2 := ff.b.h2; rw [H3.out _ P3.out])
        | (go_at_call 45; (with_reducible refine (rEval_p G t P M mod vm _ q x _ HO (ff.m.kept (by first | exact Kept.rfl' _ | exact kept_alloc _ _ | exact kept_drew _ | exact kept_drewN _ _ | exact (kept_drew _).drewN _)) (sq.kept (by first | exact Kept.rfl' _ | exact kept_alloc _ _ | exact kept_drew _ | exact kept_drewN _ _ | exact (kept_drew _).drewN _)) (by omega)).mono ?_); rintro e wx ⟨rfl, kx⟩; have hst := Kept.from hcur (by first | exact Kept.rfl' _ | exact kept_alloc _ _ | exact kept_drew _ | exact kept_drewN _ _ | exact (kept_drew _).drewN _) kx; clear hcur kx; have hcur := cur wx; have hkc := hkc.tr hst; have ff := ff.kept hst; have sp := sp.kept hst; have sq := sq.kept hst; (first | (have s3 := s3.kept hst) | skip); (first | (have s4 := s4.kept hst) | skip); clear hst; have d0 := ff.b.h0; have d1 := ff.b.h1; have d2 := ff.b.h2; rw [HU.out])
        | (go_at_call 45; (with_reducible refine (rEval_p G t P M mod vm _ p u _ HO (ff.m.kept (by first | exact Kept.rfl' _ | exact kept_alloc _ _ | exact kept_drew _ | exact kept_drewN _ _ | exact (kept_drew _).drewN _)) (sp.kept (by first | exact Kept.rfl' _ | exact kept_alloc _ _ | exact kept_drew _ | exact kept_drewN _ _ | exact (kept_drew _).drewN _)) (by omega)).mono ?_); rintro e wx ⟨rfl, kx⟩; have hst := Kept.from hcur (by first | exact Kept.rfl' _ | exact kept_alloc _ _ | exact kept_drew _ | exact kept_drewN _ _ | exact (kept_drew _).drewN _) kx; clear hcur kx; have hcur := cur wx; have hkc := hkc.tr hst; have ff := ff.kept hst; have sp := sp.kept hst; have sq := sq.kept hst; (first | (have s3 := s3.kept hst) | skip); (first | (have s4 := s4.kept hst) | skip); clear hst; have d0 := ff.b.h0; have d1 := ff.b.h1; have d2 := ff.b.h2; rw [HY.out]))
    all_goals
      go_wp2_with (fail)
      go_ret
      exact ⟨ret_bool (by simp), hkc⟩
end Go.Proofs.Ytjoednmoginhpaa
