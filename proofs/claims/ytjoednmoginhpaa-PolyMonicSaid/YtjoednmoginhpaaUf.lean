/- The walk of the law PolyMonic. No conditions. -/
import Derived.Test.YtjoednmoginhpaaNd
import Derived.Test.YtjoednmoginhpaaQb
namespace Go.Proofs.Ytjoednmoginhpaa
open Go.RowKit Cw

set_option maxRecDepth 100000 in
set_option maxHeartbeats 4000000 in
theorem polyMonic_law (P M : Int) (vm : Value) (mod : List Int) (vp : Value) (p : List Int) (w : World) (hvm : Sl w vm mod) (hp : Sl w vp p) :
    Calls Try.prog 11 #[.agg #[.int .i64 P, .int .i64 M, vm], vp] w fun e w' => e = .returned (.bool true) ∧ Kept w w' := by
  have hkc := kept_alloc w (.cells #[.int .i64 P, .int .i64 M, vm] 24)
  have bb := boxF_new w P M vm 24
  have sm := hvm.kept hkc
  have sp := hp.kept hkc
  obtain ⟨ap, capp, rfl, qp1, ⟨qp2, _⟩, _⟩ := hp
  unfold maxLen at qp2
  go_enter Try.func11, Try.ntmps11
  go_wp2_with (go_at_call 20; (with_reducible refine (alive5_any _).mono ?_); rintro e w1 ⟨rfl, ka⟩; have bb := bb.kept ka; have sm := sm.kept ka; have hkc := hkc.tr ka; have sp := sp.kept ka; have d0 := bb.h0; have d1 := bb.h1; have d2 := bb.h2; clear ka)
  by_cases hf : FieldP P M mod
  case neg =>
    have HF := hid hf
    clear hf
    go_wp2_with (go_at_call 21; (with_reducible refine (made5_no P M vm mod _ sm HF.out).mono ?_); rintro e w2 ⟨rfl, k2⟩)
    go_ret
    exact ⟨rfl, hkc.tr k2⟩
  have HF := hid hf
  clear hf
  by_cases hs : Shrt [p]
  case neg =>
    have HS := hid hs
    clear hs
    go_wp2_with (first
      | (go_at_call 21; (with_reducible refine (made5_yes P M vm mod _ sm HF.out).mono ?_); rintro e w2 ⟨b, G, rfl, g2, t, gP, gM, gm, k2⟩; have HO : Hid (Of G P M mod) := hid ⟨gP, gM, gm⟩; clear gP gM gm; have hkc := hkc.tr k2; have ff : Fw w2 b G w.heap.size P M vm mod := ⟨g2, bb.kept k2, sm.kept k2⟩; have sp := sp.kept k2; have d0 := ff.b.h0; have d1 := ff.b.h1; have d2 := ff.b.h2; clear k2 g2 bb sm; have hcur := cur w2)
      | (go_at_call 22; (with_reducible refine (short_r _ [p] _ (sll_one _ _ _ _ _ sp) false (.inr ⟨rfl, HS.out⟩)).mono ?_); rintro e w3 ⟨rfl, k3⟩; have hst := Kept.tr (kept_alloc _ _) k3; have hkc := hkc.tr hst; have ff := ff.kept hst; have sp := sp.kept hst; clear hst k3 hcur; have hcur := cur w3; have d0 := ff.b.h0; have d1 := ff.b.h1; have d2 := ff.b.h2))
    go_ret
    exact ⟨rfl, hkc⟩
  have HS := hid hs
  have np : p.length ≤ 24 := hs _ (by simp)
  clear hs
  go_wp2_with (first
    | (go_at_call 21; (with_reducible refine (made5_yes P M vm mod _ sm HF.out).mono ?_); rintro e w2 ⟨b, G, rfl, g2, t, gP, gM, gm, k2⟩; have HO : Hid (Of G P M mod) := hid ⟨gP, gM, gm⟩; clear gP gM gm; have hkc := hkc.tr k2; have ff : Fw w2 b G w.heap.size P M vm mod := ⟨g2, bb.kept k2, sm.kept k2⟩; have sp := sp.kept k2; have d0 := ff.b.h0; have d1 := ff.b.h1; have d2 := ff.b.h2; clear k2 g2 bb sm; have hcur := cur w2)
    | (go_at_call 22; (with_reducible refine (short_r _ [p] _ (sll_one _ _ _ _ _ sp) true (.inl ⟨rfl, HS.out⟩)).mono ?_); rintro e w3 ⟨rfl, k3⟩; have hst := Kept.tr (kept_alloc _ _) k3; have hkc := hkc.tr hst; have ff := ff.kept hst; have sp := sp.kept hst; clear hst k3 hcur; have hcur := cur w3; have d0 := ff.b.h0; have d1 := ff.b.h1; have d2 := ff.b.h2))
  by_cases hz : t.pl p = 0
  · have HZ := hid hz
    clear hz
    go_wp2_with (first
      | (go_at_call 44; (with_reducible refine (monic_z b G t _ p _ ff.g sp (by omega) HZ.out).mono ?_); rintro e wx ⟨rfl, kx⟩; have hst := Kept.from hcur (by first | exact Kept.rfl' _ | exact kept_alloc _ _ | exact kept_drew _ | exact kept_drewN _ _ | exact (kept_drew _).drewN _) kx; clear hcur kx; have hcur := cur wx; have hkc := hkc.tr hst; have ff := ff.kept hst; have sp := sp.kept hst; (first | (have s3 := s3.kept hst) | skip); (first | (have s4 := s4.kept hst) | skip); (first | (have s5 := s5.kept hst) | skip); clear hst; have d0 := ff.b.h0; have d1 := ff.b.h1; have d2 := ff.b.h2))
    refine (rCanon_p G t P M mod vm _ p _ HO sp (by omega)).mono ?_
    rintro e wx ⟨v4, l4, rfl, o4, kx, c4, p4⟩
    have hst := Kept.from hcur (by first | exact Kept.rfl' _ | exact kept_alloc _ _ | exact kept_drew _ | exact kept_drewN _ _ | exact (kept_drew _).drewN _) kx
    clear hcur kx
    have hcur := cur wx
    have hkc := hkc.tr hst
    have ff := ff.kept hst
    have sp := sp.kept hst
    (first | (have s3 := s3.kept hst) | skip)
    (first | (have s4 := s4.kept hst) | skip)
    (first | (have s5 := s5.kept hst) | skip)
    clear hst
    have d0 := ff.b.h0
    have d1 := ff.b.h1
    have d2 := ff.b.h2
    have s4 := o4.sl
    have P4 := hid p4
    clear p4 o4
    have z4 := s4
    obtain ⟨a4, cp4, rfl, ta4, ⟨tb4, _⟩, hc4⟩ := z4
    unfold maxLen at tb4
    have E4 : l4 = [] := (t.pl_zero c4).1 (by rw [P4.out, HZ.out])
    subst E4
    go_wp2_with (fail)
    go_ret
    exact ⟨ret_bool (by simp), hkc⟩
  have HZ := hid hz
  clear hz
  go_wp2_with (first
    | (go_at_call 44; (with_reducible refine (monic_p b G t _ p _ ff.g sp (by omega) HZ.out).mono ?_); rintro e wx ⟨v3, l3, rfl, o3, kx, c3, p3⟩; have hst := Kept.from hcur (by first | exact Kept.rfl' _ | exact kept_alloc _ _ | exact kept_drew _ | exact kept_drewN _ _ | exact (kept_drew _).drewN _) kx; clear hcur kx; have hcur := cur wx; have hkc := hkc.tr hst; have ff := ff.kept hst; have sp := sp.kept hst; (first | (have s3 := s3.kept hst) | skip); (first | (have s4 := s4.kept hst) | skip); (first | (have s5 := s5.kept hst) | skip); clear hst; have d0 := ff.b.h0; have d1 := ff.b.h1; have d2 := ff.b.h2; have s3 := o3.sl; have P3 := hid p3; clear p3 o3))
  refine (rCanon_p G t P M mod vm _ p _ HO sp (by omega)).mono ?_
  rintro e wx ⟨v4, l4, rfl, o4, kx, c4, p4⟩
  have hst := Kept.from hcur (by first | exact Kept.rfl' _ | exact kept_alloc _ _ | exact kept_drew _ | exact kept_drewN _ _ | exact (kept_drew _).drewN _) kx
  clear hcur kx
  have hcur := cur wx
  have hkc := hkc.tr hst
  have ff := ff.kept hst
  have sp := sp.kept hst
  (first | (have s3 := s3.kept hst) | skip)
  (first | (have s4 := s4.kept hst) | skip)
  (first | (have s5 := s5.kept hst) | skip)
  clear hst
  have d0 := ff.b.h0
  have d1 := ff.b.h1
  have d2 := ff.b.h2
  have s4 := o4.sl
  have P4 := hid p4
  clear p4 o4
  have z4 := s4
  obtain ⟨a4, cp4, rfl, ta4, ⟨tb4, _⟩, hc4⟩ := z4
  unfold maxLen at tb4
  have z3 := s3
  obtain ⟨a3, cp3, rfl, ta3, ⟨tb3, _⟩, hc3⟩ := z3
  unfold maxLen at tb3
  obtain ⟨d, hd, _, _⟩ := Pl.deg HZ.out
  have e3 : l3.length = d + 1 := by have := t.can_ln' c3 P3.out; rw [Pl.ln_mon, hd] at this; exact this
  have e4 : l4.length = d + 1 := by have := t.can_ln' c4 P4.out; rw [hd] at this; exact this
  have n3 : l3.length ≤ 24 := by have := t.pl_ln_le p; omega
  have ne3 : l3 ≠ [] := fun e => by rw [e] at e3; simp at e3
  have ne4 : l4 ≠ [] := fun e => by rw [e] at e4; simp at e4
  obtain ⟨g3, off3, rfl, hb3, hcell3⟩ := hc3 ne3
  obtain ⟨g4, off4, rfl, hb4, hcell4⟩ := hc4 ne4
  have x3 : l3.getD d 0 = 1 := by
    refine t.e_eq (t.can_range' c3 d) ⟨by omega, by have := t.qb; omega⟩ ?_
    have h := Pl.lc_mon HZ.out
    unfold Pl.lc at h
    rw [Pl.ln_mon, hd, Nat.add_sub_cancel, ← P3.out] at h
    rw [t.e_one]
    exact h
  obtain ⟨z, hz⟩ : ∃ z, z = l4.getD d 0 := ⟨_, rfl⟩
  have hzl : Hid (Pl.c (t.e z) * Pl.mon (t.pl p) = t.pl p) := hid (by
    have h := Pl.mon_back HZ.out
    unfold Pl.lc at h
    rw [hd, Nat.add_sub_cancel] at h
    rw [hz, show t.e (l4.getD d 0) = (t.pl p).a d by rw [← P4.out]; rfl]
    exact h)
  have r3 := hcell3 d (by omega)
  rw [x3] at r3
  have r4 := hcell4 d (by omega)
  rw [← hz] at r4
  have tl : ((l3.length : Int) == (l4.length : Int)) = true := by rw [e3, e4]; simp
  have t4 : ((l4.length : Int) == 0) = false := by rw [e4]; exact beq0 (by omega)
  have i0 : (0 : Int) ≤ (l3.length : Int) - 1 := by omega
  have i1 : (l3.length : Int) - 1 < (l3.length : Int) := by omega
  have i2 : ((l3.length : Int) - 1).toNat = d := by omega
  have i3 : IntKind.i64.wrap ((l3.length : Int) - 1) = (l3.length : Int) - 1 := IntWalk.i64_in _ (by omega)
  have j0 : (0 : Int) ≤ (l4.length : Int) - 1 := by omega
  have j1 : (l4.length : Int) - 1 < (l4.length : Int) := by omega
  have j2 : ((l4.length : Int) - 1).toNat = d := by omega
  have j3 : IntKind.i64.wrap ((l4.length : Int) - 1) = (l4.length : Int) - 1 := IntWalk.i64_in _ (by omega)
  have i4 : (1 : Int) ≤ (l3.length : Int) := by omega
  have j4 : (1 : Int) ≤ (l4.length : Int) := by omega
  have hreg := Kept.rfl' wx
  clear hd e3 e4 ne3 ne4 x3 hz hcell3 hcell4 hc3 hc4
  go_wp2_with (fail)
  go_region_held3 (fun w' => w'.cell? ⟨w.heap.size, 0, none⟩ = some (.int .i64 P) ∧ w'.cell? ⟨w.heap.size, 1, none⟩ = some (.int .i64 M) ∧ w'.cell? ⟨w.heap.size, 2, none⟩ = some vm ∧ w'.cell? ⟨g3, off3 + d, none⟩ = some (.int .i64 1) ∧ w'.cell? ⟨g4, off4 + d, none⟩ = some (.int .i64 z)) (first | (simp [go_sem]; done) | (simp [*]; done))
    (first
      | (go_at_call 33; (with_reducible refine (rScale_p G t P M mod vm z _ l3 _ HO (ff.m.kept (by first | exact Kept.rfl' _ | exact kept_alloc _ _ | exact kept_drew _ | exact kept_drewN _ _ | exact (kept_drew _).drewN _)) (s3.kept (by first | exact Kept.rfl' _ | exact kept_alloc _ _ | exact kept_drew _ | exact kept_drewN _ _ | exact (kept_drew _).drewN _)) (by omega)).mono ?_); rintro e wx ⟨v5, l5, rfl, o5, kx, c5, p5⟩; have hst := Kept.from hcur (by first | exact Kept.rfl' _ | exact kept_alloc _ _ | exact kept_drew _ | exact kept_drewN _ _ | exact (kept_drew _).drewN _) kx; clear hcur kx; have hcur := cur wx; have hkc := hkc.tr hst; have ff := ff.kept hst; have sp := sp.kept hst; (first | (have s3 := s3.kept hst) | skip); (first | (have s4 := s4.kept hst) | skip); (first | (have s5 := s5.kept hst) | skip); (first | (have hreg := hreg.tr hst) | skip); clear hst; have d0 := ff.b.h0; have d1 := ff.b.h1; have d2 := ff.b.h2; have s5 := o5.sl; have P5 := hid p5; clear p5 o5; have y3 := (Kept.cell' hreg hb3).trans r3; have y4 := (Kept.cell' hreg hb4).trans r4)
      | (go_at_call 27; (with_reducible refine (same_eq _ _ l5 l4 _ (s5.kept (by first | exact Kept.rfl' _ | exact kept_alloc _ _ | exact kept_drew _ | exact kept_drewN _ _ | exact (kept_drew _).drewN _)) (s4.kept (by first | exact Kept.rfl' _ | exact kept_alloc _ _ | exact kept_drew _ | exact kept_drewN _ _ | exact (kept_drew _).drewN _)) (t.pl_inj c5 c4 (by rw [P5.out, P3.out, P4.out, hzl.out]))).mono ?_); rintro e wx ⟨rfl, kx⟩; have hst := Kept.from hcur (by first | exact Kept.rfl' _ | exact kept_alloc _ _ | exact kept_drew _ | exact kept_drewN _ _ | exact (kept_drew _).drewN _) kx; clear hcur kx; have hcur := cur wx; have hkc := hkc.tr hst; have ff := ff.kept hst; have sp := sp.kept hst; (first | (have s3 := s3.kept hst) | skip); (first | (have s4 := s4.kept hst) | skip); (first | (have s5 := s5.kept hst) | skip); (first | (have hreg := hreg.tr hst) | skip); clear hst; have d0 := ff.b.h0; have d1 := ff.b.h1; have d2 := ff.b.h2; have y3 := (Kept.cell' hreg hb3).trans r3; have y4 := (Kept.cell' hreg hb4).trans r4))
  clear i2 i3 j2 j3 tl t4
  go_wp2_with (fail)
  go_ret
  exact ⟨ret_bool (by simp), hkc⟩
end Go.Proofs.Ytjoednmoginhpaa
