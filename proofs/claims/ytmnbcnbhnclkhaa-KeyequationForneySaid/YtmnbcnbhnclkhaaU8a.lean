/- The walk of the law KeyequationForney. No conditions. -/
import Derived.Test.YtmnbcnbhnclkhaaNaA
import Derived.Test.YtmnbcnbhnclkhaaNgA
import Derived.Test.YtmnbcnbhnclkhaaZaA
namespace Go.Proofs.Ytmnbcnbhnclkhaa
open Go.RowKit Cw

set_option maxRecDepth 100000 in
set_option maxHeartbeats 4000000 in
theorem keyequationForney_law (P M : Int) (vm : Value) (mod : List Int) (vlc vev : Value) (lc ev : List Int) (a : Int) (w : World) (hvm : Sl w vm mod) (hlc : Sl w vlc lc) (hev : Sl w vev ev) :
    Calls Try.prog 8 #[.agg #[.int .i64 P, .int .i64 M, vm], .agg #[vlc, vev], .int .i64 a] w fun e w' => e = .returned (.bool true) ∧ Kept w w' := by
  have hkc := kept_alloc w (.cells #[.int .i64 P, .int .i64 M, vm] 24)
  have bb := boxF_new w P M vm 24
  have sm := hvm.kept hkc
  have hkb := kept_alloc (w.alloc (.cells #[.int .i64 P, .int .i64 M, vm] 24)) (.cells #[vlc, vev] 25)
  have bx00 : Bx ((w.alloc (.cells #[.int .i64 P, .int .i64 M, vm] 24)).alloc (.cells #[vlc, vev] 25)) (w.heap.size + 1) 0 (vlc) := ⟨by simp, by simp⟩
  have bx01 : Bx ((w.alloc (.cells #[.int .i64 P, .int .i64 M, vm] 24)).alloc (.cells #[vlc, vev] 25)) (w.heap.size + 1) 1 (vev) := ⟨by simp, by simp⟩
  have bb := bb.kept hkb
  have sm := sm.kept hkb
  have hkc := hkc.tr hkb
  clear hkb
  have slc := hlc.kept hkc
  obtain ⟨alc, caplc, rfl, qlc1, ⟨qlc2, _⟩, _⟩ := hlc
  unfold maxLen at qlc2
  have sev := hev.kept hkc
  obtain ⟨aev, capev, rfl, qev1, ⟨qev2, _⟩, _⟩ := hev
  unfold maxLen at qev2
  go_enter Try.func8, Try.ntmps8
  go_wp2_with (go_at_call 13; (with_reducible refine (alive5_any _).mono ?_); rintro e w1 ⟨rfl, ka⟩; have bb := bb.kept ka; have sm := sm.kept ka; have hkc := hkc.tr ka; have slc := slc.kept ka; have sev := sev.kept ka; have bx00 := bx00.kept ka; have bx01 := bx01.kept ka; have d0 := bb.h0; have d1 := bb.h1; have d2 := bb.h2; clear ka)
  by_cases hf : FieldP P M mod
  case neg =>
    have HF := hid hf
    clear hf
    go_wp2_with (go_at_call 14; (with_reducible refine (made5_no P M vm mod _ sm HF.out).mono ?_); rintro e w2 ⟨rfl, k2⟩; have slc := slc.kept k2; have sev := sev.kept k2; have bx00 := bx00.kept k2; have bx01 := bx01.kept k2; have cbx00 := bx00.h; have cbx01 := bx01.h)
    go_ret
    exact ⟨rfl, hkc.tr k2⟩
  have HF := hid hf
  clear hf
  by_cases hs : Shrt [lc, ev]
  case neg =>
    have HS := hid hs
    clear hs
    go_wp2_with (first
      | (go_at_call 14; (with_reducible refine (made5_yes P M vm mod _ sm HF.out).mono ?_); rintro e w2 ⟨b, G, rfl, g2, t, gP, gM, gm, k2⟩; have HO : Hid (Of G P M mod) := hid ⟨gP, gM, gm⟩; clear gP gM gm; have hkc := hkc.tr k2; have ff : Fw w2 b G w.heap.size P M vm mod := ⟨g2, bb.kept k2, sm.kept k2⟩; have slc := slc.kept k2; have sev := sev.kept k2; have bx00 := bx00.kept k2; have bx01 := bx01.kept k2; have cbx00 := bx00.h; have cbx01 := bx01.h; have d0 := ff.b.h0; have d1 := ff.b.h1; have d2 := ff.b.h2; clear k2 g2 bb sm; have hcur := cur w2)
      | (go_at_call 15; (with_reducible refine (short_r _ [lc, ev] _ (sll_two _ _ _ _ _ _ _ _ slc sev) false (.inr ⟨rfl, HS.out⟩)).mono ?_); rintro e w3 ⟨rfl, k3⟩; have hst := Kept.tr (kept_alloc _ _) k3; have hkc := hkc.tr hst; have ff := ff.kept hst; have slc := slc.kept hst; have sev := sev.kept hst; have bx00 := bx00.kept hst; have bx01 := bx01.kept hst; clear hst k3 hcur; have hcur := cur w3; have d0 := ff.b.h0; have d1 := ff.b.h1; have d2 := ff.b.h2; have cbx00 := bx00.h; have cbx01 := bx01.h))
    go_ret
    exact ⟨rfl, hkc⟩
  have HS := hid hs
  have nlc : lc.length ≤ 20 := hs _ (by simp)
  have nev : ev.length ≤ 20 := hs _ (by simp)
  clear hs
  go_wp2_with (first
    | (go_at_call 14; (with_reducible refine (made5_yes P M vm mod _ sm HF.out).mono ?_); rintro e w2 ⟨b, G, rfl, g2, t, gP, gM, gm, k2⟩; have HO : Hid (Of G P M mod) := hid ⟨gP, gM, gm⟩; clear gP gM gm; have hkc := hkc.tr k2; have ff : Fw w2 b G w.heap.size P M vm mod := ⟨g2, bb.kept k2, sm.kept k2⟩; have slc := slc.kept k2; have sev := sev.kept k2; have bx00 := bx00.kept k2; have bx01 := bx01.kept k2; have cbx00 := bx00.h; have cbx01 := bx01.h; have d0 := ff.b.h0; have d1 := ff.b.h1; have d2 := ff.b.h2; clear k2 g2 bb sm; have hcur := cur w2)
    | (go_at_call 15; (with_reducible refine (short_r _ [lc, ev] _ (sll_two _ _ _ _ _ _ _ _ slc sev) true (.inl ⟨rfl, HS.out⟩)).mono ?_); rintro e w3 ⟨rfl, k3⟩; have hst := Kept.tr (kept_alloc _ _) k3; have hkc := hkc.tr hst; have ff := ff.kept hst; have slc := slc.kept hst; have sev := sev.kept hst; have bx00 := bx00.kept hst; have bx01 := bx01.kept hst; clear hst k3 hcur; have hcur := cur w3; have d0 := ff.b.h0; have d1 := ff.b.h1; have d2 := ff.b.h2; have cbx00 := bx00.h; have cbx01 := bx01.h)
    | (go_at_call 27; (with_reducible refine (kForney_p b G t _ _ lc ev a _ (ff.g.kept (by first | exact Kept.rfl' _ | exact kept_alloc _ _ | exact kept_drew _ | exact kept_drewN _ _ | exact (kept_drew _).drewN _)) (slc.kept (by first | exact Kept.rfl' _ | exact kept_alloc _ _ | exact kept_drew _ | exact kept_drewN _ _ | exact (kept_drew _).drewN _)) (sev.kept (by first | exact Kept.rfl' _ | exact kept_alloc _ _ | exact kept_drew _ | exact kept_drewN _ _ | exact (kept_drew _).drewN _)) (by omega)).mono ?_); rintro e wx ⟨x3, k3, rfl, f3, kx⟩; have hst := Kept.from hcur (by first | exact Kept.rfl' _ | exact kept_alloc _ _ | exact kept_drew _ | exact kept_drewN _ _ | exact (kept_drew _).drewN _) kx; clear hcur kx; have hcur := cur wx; have hkc := hkc.tr hst; have ff := ff.kept hst; have slc := slc.kept hst; have sev := sev.kept hst; have bx00 := bx00.kept hst; have bx01 := bx01.kept hst; clear hst; have d0 := ff.b.h0; have d1 := ff.b.h1; have d2 := ff.b.h2; have cbx00 := bx00.h; have cbx01 := bx01.h; have F3 := hid f3; clear f3)
    | (go_at_call 30; (with_reducible refine (rkForney_p G t P M mod vm _ _ lc ev a _ HO (ff.m.kept (by first | exact Kept.rfl' _ | exact kept_alloc _ _ | exact kept_drew _ | exact kept_drewN _ _ | exact (kept_drew _).drewN _)) (slc.kept (by first | exact Kept.rfl' _ | exact kept_alloc _ _ | exact kept_drew _ | exact kept_drewN _ _ | exact (kept_drew _).drewN _)) (sev.kept (by first | exact Kept.rfl' _ | exact kept_alloc _ _ | exact kept_drew _ | exact kept_drewN _ _ | exact (kept_drew _).drewN _)) (by omega) (by omega)).mono ?_); rintro e wx ⟨x4, k4, rfl, f4, kx⟩; have hst := Kept.from hcur (by first | exact Kept.rfl' _ | exact kept_alloc _ _ | exact kept_drew _ | exact kept_drewN _ _ | exact (kept_drew _).drewN _) kx; clear hcur kx; have hcur := cur wx; have hkc := hkc.tr hst; have ff := ff.kept hst; have slc := slc.kept hst; have sev := sev.kept hst; have bx00 := bx00.kept hst; have bx01 := bx01.kept hst; clear hst; have d0 := ff.b.h0; have d1 := ff.b.h1; have d2 := ff.b.h2; have cbx00 := bx00.h; have cbx01 := bx01.h; obtain ⟨e1, e2⟩ := F3.out.eq f4; subst e1 e2; clear f4))
  go_ret
  exact ⟨ret_bool (by first | rfl | (simp; done) | (simp; omega)), hkc⟩
end Go.Proofs.Ytmnbcnbhnclkhaa
