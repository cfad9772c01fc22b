/- The walk of the law PolyRemainders. No conditions. -/
import Derived.Test.YtjoednmoginhpaaNd
import Derived.Test.YtjoednmoginhpaaQb
namespace Go.Proofs.Ytjoednmoginhpaa
open Go.RowKit Cw

set_option maxRecDepth 100000 in
set_option maxHeartbeats 4000000 in
theorem polyRemainders_law (P M : Int) (vm : Value) (mod : List Int) (vp : Value) (p : List Int) (a : Int) (w : World) (hvm : Sl w vm mod) (hp : Sl w vp p) :
    Calls Try.prog 9 #[.agg #[.int .i64 P, .int .i64 M, vm], vp, .int .i64 a] w fun e w' => e = .returned (.bool true) ∧ Kept w w' := by
  have hkc := kept_alloc w (.cells #[.int .i64 P, .int .i64 M, vm] 24)
  have bb := boxF_new w P M vm 24
  have sm := hvm.kept hkc
  have sp := hp.kept hkc
  obtain ⟨ap, capp, rfl, qp1, ⟨qp2, _⟩, _⟩ := hp
  unfold maxLen at qp2
  go_enter Try.func9, Try.ntmps9
  go_wp2_with (go_at_call 20; (with_reducible refine (alive5_any _).mono ?_); rintro e w1 ⟨rfl, ka⟩; have bb := bb.kept ka; have sm := sm.kept ka; have hkc := hkc.tr ka; have sp := sp.kept ka; have d0 := bb.h0; have d1 := bb.h1; have d2 := bb.h2; clear ka)
  by_cases hf : FieldP P M mod
  case neg =>
    have HF := hid hf
    clear hf
    go_wp2_with (go_at_call 21; (with_reducible refine (made5_no P M vm mod _ sm HF.out).mono ?_); rintro e w2 ⟨rfl, k2⟩)
    go_ret
    exact ⟨rfl, hkc.tr k2⟩
  have HF := hid hf
  clear hf
  by_cases hs : Shrt [p]
  case neg =>
    have HS := hid hs
    clear hs
    go_wp2_with (first
      | (go_at_call 21; (with_reducible refine (made5_yes P M vm mod _ sm HF.out).mono ?_); rintro e w2 ⟨b, G, rfl, g2, t, gP, gM, gm, k2⟩; have HO : Hid (Of G P M mod) := hid ⟨gP, gM, gm⟩; clear gP gM gm; have hkc := hkc.tr k2; have ff : Fw w2 b G w.heap.size P M vm mod := ⟨g2, bb.kept k2, sm.kept k2⟩; have sp := sp.kept k2; have d0 := ff.b.h0; have d1 := ff.b.h1; have d2 := ff.b.h2; clear k2 g2 bb sm; have hcur := cur w2)
      | (go_at_call 22; (with_reducible refine (short_r _ [p] _ (sll_one _ _ _ _ _ sp) false (.inr ⟨rfl, HS.out⟩)).mono ?_); rintro e w3 ⟨rfl, k3⟩; have hst := Kept.tr (kept_alloc _ _) k3; have hkc := hkc.tr hst; have ff := ff.kept hst; have sp := sp.kept hst; clear hst k3 hcur; have hcur := cur w3; have d0 := ff.b.h0; have d1 := ff.b.h1; have d2 := ff.b.h2))
    go_ret
    exact ⟨rfl, hkc⟩
  have HS := hid hs
  have np : p.length ≤ 24 := hs _ (by simp)
  clear hs
  go_wp2_with (first
    | (go_at_call 21; (with_reducible refine (made5_yes P M vm mod _ sm HF.out).mono ?_); rintro e w2 ⟨b, G, rfl, g2, t, gP, gM, gm, k2⟩; have HO : Hid (Of G P M mod) := hid ⟨gP, gM, gm⟩; clear gP gM gm; have hkc := hkc.tr k2; have ff : Fw w2 b G w.heap.size P M vm mod := ⟨g2, bb.kept k2, sm.kept k2⟩; have sp := sp.kept k2; have d0 := ff.b.h0; have d1 := ff.b.h1; have d2 := ff.b.h2; clear k2 g2 bb sm; have hcur := cur w2)
    | (go_at_call 22; (with_reducible refine (short_r _ [p] _ (sll_one _ _ _ _ _ sp) true (.inl ⟨rfl, HS.out⟩)).mono ?_); rintro e w3 ⟨rfl, k3⟩; have hst := Kept.tr (kept_alloc _ _) k3; have hkc := hkc.tr hst; have ff := ff.kept hst; have sp := sp.kept hst; clear hst k3 hcur; have hcur := cur w3; have d0 := ff.b.h0; have d1 := ff.b.h1; have d2 := ff.b.h2)
    | (go_at_call 40; (with_reducible refine (fromRoots_p b G t _ [a] _ (ff.g.kept (by first | exact Kept.rfl' _ | exact kept_alloc _ _ | exact kept_drew _ | exact kept_drewN _ _ | exact (kept_drew _).drewN _)) (own_one' _ _) (by simp)).mono ?_); rintro e wx ⟨v3, l3, rfl, o3, kx, c3, p3⟩; have hst := Kept.from hcur (by first | exact Kept.rfl' _ | exact kept_alloc _ _ | exact kept_drew _ | exact kept_drewN _ _ | exact (kept_drew _).drewN _) kx; clear hcur kx; have hcur := cur wx; have hkc := hkc.tr hst; have ff := ff.kept hst; have sp := sp.kept hst; (first | (have s3 := s3.kept hst) | skip); (first | (have s4 := s4.kept hst) | skip); clear hst; have d0 := ff.b.h0; have d1 := ff.b.h1; have d2 := ff.b.h2; have s3 := o3.sl; have P3 := hid p3; clear p3 o3; have n3 : l3.length ≤ 24 := (by have := t.can_ln' c3 P3.out; rw [Pl.ln_prf] at this; simp at this; omega))
    | (go_at_call 23; (with_reducible refine (divmod_p b G t _ _ p l3 _ ff.g sp s3 (by omega) (by omega) (by rw [P3.out]; exact Pl.prf_ne _ _)).mono ?_); rintro e wx ⟨vu, vr, lu, lr, rfl, ou, orr, kx, cu, cr, pu, pr⟩; have hst := Kept.from hcur (by first | exact Kept.rfl' _ | exact kept_alloc _ _ | exact kept_drew _ | exact kept_drewN _ _ | exact (kept_drew _).drewN _) kx; clear hcur kx; have hcur := cur wx; have hkc := hkc.tr hst; have ff := ff.kept hst; have sp := sp.kept hst; (first | (have s3 := s3.kept hst) | skip); (first | (have s4 := s4.kept hst) | skip); clear hst; have d0 := ff.b.h0; have d1 := ff.b.h1; have d2 := ff.b.h2; have s4 := orr.sl; have PR : Hid (t.pl lr = Pl.c (t.e (evL G p a))) := hid (by rw [pr, P3.out]; show Pl.rem _ (1 * Pl.lin _) = _; rw [Rg.one_mul, Pl.rem_lin, t.e_evL]; rfl); clear pu pr ou orr cu))
  obtain ⟨y, hy⟩ : ∃ y, y = evL G p a := ⟨_, rfl⟩
  have HY : Hid (evL G p a = y) := hid hy.symm
  by_cases h0 : y = 0
  · subst h0
    have E4 : lr = [] := (t.pl_zero cr).1 (by rw [PR.out, HY.out, t.e_zero, Pl.c_zero])
    subst E4
    have z4 := s4
    obtain ⟨a4, cp4, rfl, _⟩ := z4
    clear hy
    go_wp2_with (first
      | (go_at_call 41; (with_reducible refine (eval_k b G t _ p a _ ff.g sp).mono ?_); rintro e wx ⟨rfl, kx⟩; have hst := Kept.from hcur (by first | exact Kept.rfl' _ | exact kept_alloc _ _ | exact kept_drew _ | exact kept_drewN _ _ | exact (kept_drew _).drewN _) kx; clear hcur kx; have hcur := cur wx; have hkc := hkc.tr hst; have ff := ff.kept hst; have sp := sp.kept hst; (first | (have s3 := s3.kept hst) | skip); (first | (have s4 := s4.kept hst) | skip); clear hst; have d0 := ff.b.h0; have d1 := ff.b.h1; have d2 := ff.b.h2; rw [HY.out]))
    go_ret
    exact ⟨ret_bool (by simp), hkc⟩
  have ty : (y == 0) = false := by simpa using h0
  have hyb := t.evL_bd p a
  rw [← hy] at hyb
  have E4 : Hid (lr = [y]) := hid (t.pl_inj cr (can_single hyb h0) (by rw [PR.out, t.pl_single, HY.out]))
  clear hy h0 hyb
  go_wp2_with (first
    | (go_at_call 41; (with_reducible refine (eval_k b G t _ p a _ ff.g sp).mono ?_); rintro e wx ⟨rfl, kx⟩; have hst := Kept.from hcur (by first | exact Kept.rfl' _ | exact kept_alloc _ _ | exact kept_drew _ | exact kept_drewN _ _ | exact (kept_drew _).drewN _) kx; clear hcur kx; have hcur := cur wx; have hkc := hkc.tr hst; have ff := ff.kept hst; have sp := sp.kept hst; (first | (have s3 := s3.kept hst) | skip); (first | (have s4 := s4.kept hst) | skip); clear hst; have d0 := ff.b.h0; have d1 := ff.b.h1; have d2 := ff.b.h2; rw [HY.out])
    | (go_at_call 27; (with_reducible refine (same_eq _ _ lr [y] _ (s4.kept (by first | exact Kept.rfl' _ | exact kept_alloc _ _ | exact kept_drew _ | exact kept_drewN _ _ | exact (kept_drew _).drewN _)) (own_one' _ _) E4.out).mono ?_); rintro e wx ⟨rfl, kx⟩; have hst := Kept.from hcur (by first | exact Kept.rfl' _ | exact kept_alloc _ _ | exact kept_drew _ | exact kept_drewN _ _ | exact (kept_drew _).drewN _) kx; clear hcur kx; have hcur := cur wx; have hkc := hkc.tr hst; have ff := ff.kept hst; have sp := sp.kept hst; (first | (have s3 := s3.kept hst) | skip); (first | (have s4 := s4.kept hst) | skip); clear hst; have d0 := ff.b.h0; have d1 := ff.b.h1; have d2 := ff.b.h2))
  go_ret
  exact ⟨ret_bool (by simp), hkc⟩
end Go.Proofs.Ytjoednmoginhpaa
