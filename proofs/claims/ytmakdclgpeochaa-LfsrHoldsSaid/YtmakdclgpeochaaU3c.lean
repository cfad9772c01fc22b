/- The walk of the law LfsrHolds. No conditions. -/
import Derived.Test.YtmakdclgpeochaaNe
import Derived.Test.YtmakdclgpeochaaNf
import Derived.Test.YtmakdclgpeochaaIa
namespace Go.Proofs.Ytmakdclgpeochaa
open Go.RowKit Cw

theorem bif_ex (p : Prop) : ∃ r, BIf r p := by
  by_cases h : p
  · exact ⟨true, ⟨fun _ => h, fun _ => rfl⟩⟩
  · exact ⟨false, ⟨(fun e => by cases e), fun e => absurd e h⟩⟩
set_option maxRecDepth 100000 in
set_option maxHeartbeats 4000000 in
theorem lfsrHolds_law (P M : Int) (vm : Value) (mod : List Int) (vc vu : Value) (c u : List Int) (l : Int) (w : World) (hvm : Sl w vm mod) (hc : Sl w vc c) (hu : Sl w vu u) :
    Calls Try.prog 10 #[.agg #[.int .i64 P, .int .i64 M, vm], .agg #[vc, vu], .int .i64 l] w fun e w' => e = .returned (.bool true) ∧ Kept w w' := by
  have hkc := kept_alloc w (.cells #[.int .i64 P, .int .i64 M, vm] 24)
  have bb := boxF_new w P M vm 24
  have sm := hvm.kept hkc
  have hkb := kept_alloc (w.alloc (.cells #[.int .i64 P, .int .i64 M, vm] 24)) (.cells #[vc, vu] 36)
  have bx0 : Bx ((w.alloc (.cells #[.int .i64 P, .int .i64 M, vm] 24)).alloc (.cells #[vc, vu] 36)) (w.heap.size + 1) 0 vc := ⟨by simp, by simp⟩
  have bx1 : Bx ((w.alloc (.cells #[.int .i64 P, .int .i64 M, vm] 24)).alloc (.cells #[vc, vu] 36)) (w.heap.size + 1) 1 vu := ⟨by simp, by simp⟩
  have bb := bb.kept hkb
  have sm := sm.kept hkb
  have hkc := hkc.tr hkb
  clear hkb
  have sc := hc.kept hkc
  obtain ⟨ac, capc, rfl, qc1, ⟨qc2, _⟩, _⟩ := hc
  unfold maxLen at qc2
  have su := hu.kept hkc
  obtain ⟨au, capu, rfl, qu1, ⟨qu2, _⟩, _⟩ := hu
  unfold maxLen at qu2
  go_enter Try.func10, Try.ntmps10
  go_wp2_with (go_at_call 13; (with_reducible refine (alive5_any _).mono ?_); rintro e w1 ⟨rfl, ka⟩; have bb := bb.kept ka; have sm := sm.kept ka; have hkc := hkc.tr ka; have sc := sc.kept ka; have su := su.kept ka; have bx0 := bx0.kept ka; have bx1 := bx1.kept ka; have d0 := bb.h0; have d1 := bb.h1; have d2 := bb.h2; clear ka)
  by_cases hf : FieldP P M mod
  case neg =>
    have HF := hid hf
    clear hf
    go_wp2_with (go_at_call 14; (with_reducible refine (made5_no P M vm mod _ sm HF.out).mono ?_); rintro e w2 ⟨rfl, k2⟩)
    go_ret
    exact ⟨rfl, hkc.tr k2⟩
  have HF := hid hf
  clear hf
  by_cases hs : Shrt [c, u]
  case neg =>
    have HS := hid hs
    clear hs
    go_wp2_with (first
      | (go_at_call 14; (with_reducible refine (made5_yes P M vm mod _ sm HF.out).mono ?_); rintro e w2 ⟨b, G, rfl, g2, t, gP, gM, gm, k2⟩; have HO : Hid (Of G P M mod) := hid ⟨gP, gM, gm⟩; clear gP gM gm; have hkc := hkc.tr k2; have ff : Fw w2 b G w.heap.size P M vm mod := ⟨g2, bb.kept k2, sm.kept k2⟩; have sc := sc.kept k2; have su := su.kept k2; have bx0 := bx0.kept k2; have bx1 := bx1.kept k2; have bc0 := bx0.h; have bc1 := bx1.h; have d0 := ff.b.h0; have d1 := ff.b.h1; have d2 := ff.b.h2; clear k2 g2 bb sm; have hcur := cur w2)
      | (go_at_call 15; (with_reducible refine (short_r _ [c, u] _ (sll_two _ _ _ _ _ _ _ _ sc su) false (.inr ⟨rfl, HS.out⟩)).mono ?_); rintro e w3 ⟨rfl, k3⟩; have hst := Kept.tr (kept_alloc _ _) k3; have hkc := hkc.tr hst; have ff := ff.kept hst; have sc := sc.kept hst; have su := su.kept hst; have bx0 := bx0.kept hst; have bx1 := bx1.kept hst; clear hst k3 hcur; have hcur := cur w3; have d0 := ff.b.h0; have d1 := ff.b.h1; have d2 := ff.b.h2; have bc0 := bx0.h; have bc1 := bx1.h))
    go_ret
    exact ⟨rfl, hkc⟩
  have HS := hid hs
  have nc : c.length ≤ 24 := hs _ (by simp)
  have nu : u.length ≤ 24 := hs _ (by simp)
  clear hs
  go_wp2_with (first
    | (go_at_call 14; (with_reducible refine (made5_yes P M vm mod _ sm HF.out).mono ?_); rintro e w2 ⟨b, G, rfl, g2, t, gP, gM, gm, k2⟩; have HO : Hid (Of G P M mod) := hid ⟨gP, gM, gm⟩; clear gP gM gm; have hkc := hkc.tr k2; have ff : Fw w2 b G w.heap.size P M vm mod := ⟨g2, bb.kept k2, sm.kept k2⟩; have sc := sc.kept k2; have su := su.kept k2; have bx0 := bx0.kept k2; have bx1 := bx1.kept k2; have bc0 := bx0.h; have bc1 := bx1.h; have d0 := ff.b.h0; have d1 := ff.b.h1; have d2 := ff.b.h2; clear k2 g2 bb sm; have hcur := cur w2)
    | (go_at_call 15; (with_reducible refine (short_r _ [c, u] _ (sll_two _ _ _ _ _ _ _ _ sc su) true (.inl ⟨rfl, HS.out⟩)).mono ?_); rintro e w3 ⟨rfl, k3⟩; have hst := Kept.tr (kept_alloc _ _) k3; have hkc := hkc.tr hst; have ff := ff.kept hst; have sc := sc.kept hst; have su := su.kept hst; have bx0 := bx0.kept hst; have bx1 := bx1.kept hst; clear hst k3 hcur; have hcur := cur w3; have d0 := ff.b.h0; have d1 := ff.b.h1; have d2 := ff.b.h2; have bc0 := bx0.h; have bc1 := bx1.h))
  obtain ⟨r, hr⟩ : ∃ r, BIf r (HoldsP t c l u) := bif_ex _
  have HR := hid hr
  clear hr
  go_region_held3 (fun w' => w'.cell? ⟨w.heap.size, 0, none⟩ = some (.int .i64 P) ∧ w'.cell? ⟨w.heap.size, 1, none⟩ = some (.int .i64 M) ∧ w'.cell? ⟨w.heap.size, 2, none⟩ = some vm ∧ w'.cell? ⟨w.heap.size + 1, 0, none⟩ = some (.slice ac c.length capc) ∧ w'.cell? ⟨w.heap.size + 1, 1, none⟩ = some (.slice au u.length capu)) (first | (simp [go_sem]; done) | (simp [*]; done))
    (first
      | (go_at_call 28; (with_reducible refine (holds_r b G t _ _ c u l r _ (ff.g.kept (by first | exact Kept.rfl' _ | exact kept_alloc _ _ | exact kept_drew _ | exact kept_drewN _ _ | exact (kept_drew _).drewN _)) (sc.kept (by first | exact Kept.rfl' _ | exact kept_alloc _ _ | exact kept_drew _ | exact kept_drewN _ _ | exact (kept_drew _).drewN _)) (su.kept (by first | exact Kept.rfl' _ | exact kept_alloc _ _ | exact kept_drew _ | exact kept_drewN _ _ | exact (kept_drew _).drewN _)) (by omega) HR.out).mono ?_); rintro e wx ⟨rfl, kx⟩; have hst := Kept.from hcur (by first | exact Kept.rfl' _ | exact kept_alloc _ _ | exact kept_drew _ | exact kept_drewN _ _ | exact (kept_drew _).drewN _) kx; clear hcur kx; have hcur := cur wx; have hkc := hkc.tr hst; have ff := ff.kept hst; have sc := sc.kept hst; have su := su.kept hst; have bx0 := bx0.kept hst; have bx1 := bx1.kept hst; clear hst; have d0 := ff.b.h0; have d1 := ff.b.h1; have d2 := ff.b.h2; have bc0 := bx0.h; have bc1 := bx1.h)
      | (go_at_call 18; (with_reducible refine (rHolds_r G t P M mod vm _ _ c u l r _ HO (ff.m.kept (by first | exact Kept.rfl' _ | exact kept_alloc _ _ | exact kept_drew _ | exact kept_drewN _ _ | exact (kept_drew _).drewN _)) (sc.kept (by first | exact Kept.rfl' _ | exact kept_alloc _ _ | exact kept_drew _ | exact kept_drewN _ _ | exact (kept_drew _).drewN _)) (su.kept (by first | exact Kept.rfl' _ | exact kept_alloc _ _ | exact kept_drew _ | exact kept_drewN _ _ | exact (kept_drew _).drewN _)) (by omega) (by omega) HR.out).mono ?_); rintro e wx ⟨rfl, kx⟩; have hst := Kept.from hcur (by first | exact Kept.rfl' _ | exact kept_alloc _ _ | exact kept_drew _ | exact kept_drewN _ _ | exact (kept_drew _).drewN _) kx; clear hcur kx; have hcur := cur wx; have hkc := hkc.tr hst; have ff := ff.kept hst; have sc := sc.kept hst; have su := su.kept hst; have bx0 := bx0.kept hst; have bx1 := bx1.kept hst; clear hst; have d0 := ff.b.h0; have d1 := ff.b.h1; have d2 := ff.b.h2; have bc0 := bx0.h; have bc1 := bx1.h))
  all_goals
    go_wp2_with (fail)
    go_ret
    exact ⟨ret_bool (by first | rfl | (simp; done) | (simp; omega)), hkc⟩
end Go.Proofs.Ytmakdclgpeochaa
