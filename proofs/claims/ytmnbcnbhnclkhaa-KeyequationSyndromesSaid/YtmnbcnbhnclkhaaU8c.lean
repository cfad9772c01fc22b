/- The walk of the law KeyequationSyndromes. No conditions. -/
import Derived.Test.YtmnbcnbhnclkhaaNaA
import Derived.Test.YtmnbcnbhnclkhaaNgA
import Derived.Test.YtmnbcnbhnclkhaaZaA
namespace Go.Proofs.Ytmnbcnbhnclkhaa
open Go.RowKit Cw

set_option maxRecDepth 100000 in
set_option maxHeartbeats 4000000 in
theorem keyequationSyndromes_law (P M : Int) (vm : Value) (mod : List Int) (vps vqs : Value) (ps qs : List Int) (r : Int) (w : World) (hvm : Sl w vm mod) (hps : Sl w vps ps) (hqs : Sl w vqs qs) :
    Calls Try.prog 3 #[.agg #[.int .i64 P, .int .i64 M, vm], .agg #[vps, vqs], .int .i64 r] w fun e w' => e = .returned (.bool true) ∧ Kept w w' := by
  have hkc := kept_alloc w (.cells #[.int .i64 P, .int .i64 M, vm] 24)
  have bb := boxF_new w P M vm 24
  have sm := hvm.kept hkc
  have hkb := kept_alloc (w.alloc (.cells #[.int .i64 P, .int .i64 M, vm] 24)) (.cells #[vps, vqs] 25)
  have bx00 : Bx ((w.alloc (.cells #[.int .i64 P, .int .i64 M, vm] 24)).alloc (.cells #[vps, vqs] 25)) (w.heap.size + 1) 0 (vps) := ⟨by simp, by simp⟩
  have bx01 : Bx ((w.alloc (.cells #[.int .i64 P, .int .i64 M, vm] 24)).alloc (.cells #[vps, vqs] 25)) (w.heap.size + 1) 1 (vqs) := ⟨by simp, by simp⟩
  have bb := bb.kept hkb
  have sm := sm.kept hkb
  have hkc := hkc.tr hkb
  clear hkb
  have sps := hps.kept hkc
  obtain ⟨aps, capps, rfl, qps1, ⟨qps2, _⟩, _⟩ := hps
  unfold maxLen at qps2
  have sqs := hqs.kept hkc
  obtain ⟨aqs, capqs, rfl, qqs1, ⟨qqs2, _⟩, _⟩ := hqs
  unfold maxLen at qqs2
  go_enter Try.func3, Try.ntmps3
  go_wp2_with (go_at_call 13; (with_reducible refine (alive5_any _).mono ?_); rintro e w1 ⟨rfl, ka⟩; have bb := bb.kept ka; have sm := sm.kept ka; have hkc := hkc.tr ka; have sps := sps.kept ka; have sqs := sqs.kept ka; have bx00 := bx00.kept ka; have bx01 := bx01.kept ka; have d0 := bb.h0; have d1 := bb.h1; have d2 := bb.h2; clear ka)
  by_cases hf : FieldP P M mod
  case neg =>
    have HF := hid hf
    clear hf
    go_wp2_with (go_at_call 14; (with_reducible refine (made5_no P M vm mod _ sm HF.out).mono ?_); rintro e w2 ⟨rfl, k2⟩; have sps := sps.kept k2; have sqs := sqs.kept k2; have bx00 := bx00.kept k2; have bx01 := bx01.kept k2; have cbx00 := bx00.h; have cbx01 := bx01.h)
    go_quiet (fail)
    go_wp2_with (fail)
    go_ret
    exact ⟨rfl, hkc.tr (k2.drewN _)⟩
  have HF := hid hf
  clear hf
  by_cases hs : Shrt [ps, qs]
  case neg =>
    have HS := hid hs
    clear hs
    go_wp2_with (first
      | (go_at_call 14; (with_reducible refine (made5_yes P M vm mod _ sm HF.out).mono ?_); rintro e w2 ⟨b, G, rfl, g2, t, gP, gM, gm, k2⟩; have HO : Hid (Of G P M mod) := hid ⟨gP, gM, gm⟩; clear gP gM gm; have hkc := hkc.tr k2; have ff : Fw w2 b G w.heap.size P M vm mod := ⟨g2, bb.kept k2, sm.kept k2⟩; have sps := sps.kept k2; have sqs := sqs.kept k2; have bx00 := bx00.kept k2; have bx01 := bx01.kept k2; have cbx00 := bx00.h; have cbx01 := bx01.h; have d0 := ff.b.h0; have d1 := ff.b.h1; have d2 := ff.b.h2; clear k2 g2 bb sm; have hcur := cur w2))
    go_quiet (fail)
    clear bx00 cbx00
    clear bx01 cbx01
    go_wp2_with (first
      | (go_at_call 15; (with_reducible refine (short_r _ [ps, qs] _ (sllb_two _ _ (drewN_sz _ _) _ _ _ _ _ _ _ (sps.kept (kept_drewN _ _)) (sqs.kept (kept_drewN _ _))) false (.inr ⟨rfl, HS.out⟩)).mono ?_); rintro e w3 ⟨rfl, k3⟩; have hst := Kept.tr (kept_drewN _ _) (Kept.tr (kept_alloc _ _) k3); have hkc := hkc.tr hst; have ff := ff.kept hst; have sps := sps.kept hst; have sqs := sqs.kept hst; clear hst k3 hcur; have hcur := cur w3; have d0 := ff.b.h0; have d1 := ff.b.h1; have d2 := ff.b.h2))
    go_ret
    exact ⟨rfl, hkc⟩
  have HS := hid hs
  have nps : ps.length ≤ 20 := hs _ (by simp)
  have nqs : qs.length ≤ 20 := hs _ (by simp)
  clear hs
  go_wp2_with (first
    | (go_at_call 14; (with_reducible refine (made5_yes P M vm mod _ sm HF.out).mono ?_); rintro e w2 ⟨b, G, rfl, g2, t, gP, gM, gm, k2⟩; have HO : Hid (Of G P M mod) := hid ⟨gP, gM, gm⟩; clear gP gM gm; have hkc := hkc.tr k2; have ff : Fw w2 b G w.heap.size P M vm mod := ⟨g2, bb.kept k2, sm.kept k2⟩; have sps := sps.kept k2; have sqs := sqs.kept k2; have bx00 := bx00.kept k2; have bx01 := bx01.kept k2; have cbx00 := bx00.h; have cbx01 := bx01.h; have d0 := ff.b.h0; have d1 := ff.b.h1; have d2 := ff.b.h2; clear k2 g2 bb sm; have hcur := cur w2))
  go_quiet (fail)
  clear bx00 cbx00
  clear bx01 cbx01
  go_wp2_with (first
    | (go_at_call 15; (with_reducible refine (short_r _ [ps, qs] _ (sllb_two _ _ (drewN_sz _ _) _ _ _ _ _ _ _ (sps.kept (kept_drewN _ _)) (sqs.kept (kept_drewN _ _))) true (.inl ⟨rfl, HS.out⟩)).mono ?_); rintro e w3 ⟨rfl, k3⟩; have hst := Kept.tr (kept_drewN _ _) (Kept.tr (kept_alloc _ _) k3); have hkc := hkc.tr hst; have ff := ff.kept hst; have sps := sps.kept hst; have sqs := sqs.kept hst; clear hst k3 hcur; have hcur := cur w3; have d0 := ff.b.h0; have d1 := ff.b.h1; have d2 := ff.b.h2))
  by_cases hl : ps.length = qs.length
  case neg =>
    have tl : ((ps.length : Int) != (qs.length : Int)) = true := by simp; omega
    have HL := hid hl
    clear hl
    go_wp2_with (first
      | (go_at_call 16; (with_reducible refine (kSyn_shape b _ _ ps qs r _ (sps.kept (by first | exact Kept.rfl' _ | exact kept_alloc _ _ | exact kept_drew _ | exact kept_drewN _ _ | exact (kept_drew _).drewN _)) (sqs.kept (by first | exact Kept.rfl' _ | exact kept_alloc _ _ | exact kept_drew _ | exact kept_drewN _ _ | exact (kept_drew _).drewN _)) HL.out).mono ?_); rintro e wx ⟨rfl, kx⟩; have hst := Kept.from hcur (by first | exact Kept.rfl' _ | exact kept_alloc _ _ | exact kept_drew _ | exact kept_drewN _ _ | exact (kept_drew _).drewN _) kx; clear hcur kx; have hcur := cur wx; have hkc := hkc.tr hst; have ff := ff.kept hst; have sps := sps.kept hst; have sqs := sqs.kept hst; (first | (have s3 := s3.kept hst) | skip); (first | (have s4 := s4.kept hst) | skip); clear hst; have d0 := ff.b.h0; have d1 := ff.b.h1; have d2 := ff.b.h2))
    go_ret
    exact ⟨ret_bool (by first | rfl | (simp; done) | (simp; omega)), hkc⟩
  have tl : ((ps.length : Int) != (qs.length : Int)) = false := by simp; omega
  have HL := hid hl
  clear hl
  by_cases hr : r < 0 ∨ 256 < r
  · have HR := hid hr
    have hcs : r < 0 ∨ (0 ≤ r ∧ 256 < r) := by omega
    clear hr
    rcases hcs with g1 | ⟨g1, g2⟩
    all_goals
      go_wp2_with (first
        | (go_at_call 16; (with_reducible refine (kSyn_range b _ _ ps qs r _ (sps.kept (by first | exact Kept.rfl' _ | exact kept_alloc _ _ | exact kept_drew _ | exact kept_drewN _ _ | exact (kept_drew _).drewN _)) (sqs.kept (by first | exact Kept.rfl' _ | exact kept_alloc _ _ | exact kept_drew _ | exact kept_drewN _ _ | exact (kept_drew _).drewN _)) HL.out HR.out).mono ?_); rintro e wx ⟨rfl, kx⟩; have hst := Kept.from hcur (by first | exact Kept.rfl' _ | exact kept_alloc _ _ | exact kept_drew _ | exact kept_drewN _ _ | exact (kept_drew _).drewN _) kx; clear hcur kx; have hcur := cur wx; have hkc := hkc.tr hst; have ff := ff.kept hst; have sps := sps.kept hst; have sqs := sqs.kept hst; (first | (have s3 := s3.kept hst) | skip); (first | (have s4 := s4.kept hst) | skip); clear hst; have d0 := ff.b.h0; have d1 := ff.b.h1; have d2 := ff.b.h2))
      go_ret
      exact ⟨ret_bool (by first | rfl | (simp; done) | (simp; omega)), hkc⟩
  obtain ⟨k, rfl⟩ := Int.eq_ofNat_of_zero_le (show 0 ≤ r by omega)
  have hk : k ≤ 256 := by omega
  have k0 : (0 : Int) ≤ (k : Int) := by omega
  have k1 : (k : Int) ≤ 256 := by omega
  clear hr
  go_wp2_with (first
    | (go_at_call 16; (with_reducible refine (kSyn_p b G t _ _ ps qs k _ (ff.g.kept (by first | exact Kept.rfl' _ | exact kept_alloc _ _ | exact kept_drew _ | exact kept_drewN _ _ | exact (kept_drew _).drewN _)) (sps.kept (by first | exact Kept.rfl' _ | exact kept_alloc _ _ | exact kept_drew _ | exact kept_drewN _ _ | exact (kept_drew _).drewN _)) (sqs.kept (by first | exact Kept.rfl' _ | exact kept_alloc _ _ | exact kept_drew _ | exact kept_drewN _ _ | exact (kept_drew _).drewN _)) (by omega) HL.out hk).mono ?_); rintro e wx ⟨v3, l3, rfl, o3, kx, c3, y3⟩; have hst := Kept.from hcur (by first | exact Kept.rfl' _ | exact kept_alloc _ _ | exact kept_drew _ | exact kept_drewN _ _ | exact (kept_drew _).drewN _) kx; clear hcur kx; have hcur := cur wx; have hkc := hkc.tr hst; have ff := ff.kept hst; have sps := sps.kept hst; have sqs := sqs.kept hst; (first | (have s3 := s3.kept hst) | skip); (first | (have s4 := s4.kept hst) | skip); clear hst; have d0 := ff.b.h0; have d1 := ff.b.h1; have d2 := ff.b.h2; have s3 := o3.sl; have Y3 := hid y3; clear y3 o3)
    | (go_at_call 18; (with_reducible refine (rkSyn_p G t P M mod vm _ _ ps qs k _ HO (ff.m.kept (by first | exact Kept.rfl' _ | exact kept_alloc _ _ | exact kept_drew _ | exact kept_drewN _ _ | exact (kept_drew _).drewN _)) (sps.kept (by first | exact Kept.rfl' _ | exact kept_alloc _ _ | exact kept_drew _ | exact kept_drewN _ _ | exact (kept_drew _).drewN _)) (sqs.kept (by first | exact Kept.rfl' _ | exact kept_alloc _ _ | exact kept_drew _ | exact kept_drewN _ _ | exact (kept_drew _).drewN _)) (by omega) HL.out hk).mono ?_); rintro e wx ⟨v4, l4, rfl, o4, kx, c4, y4⟩; have hst := Kept.from hcur (by first | exact Kept.rfl' _ | exact kept_alloc _ _ | exact kept_drew _ | exact kept_drewN _ _ | exact (kept_drew _).drewN _) kx; clear hcur kx; have hcur := cur wx; have hkc := hkc.tr hst; have ff := ff.kept hst; have sps := sps.kept hst; have sqs := sqs.kept hst; (first | (have s3 := s3.kept hst) | skip); (first | (have s4 := s4.kept hst) | skip); clear hst; have d0 := ff.b.h0; have d1 := ff.b.h1; have d2 := ff.b.h2; have s4 := o4.sl; have E4 : Hid (l3 = l4) := hid (t.pl_inj c3 c4 (Y3.out.eq y4)); clear y4 o4)
    | (go_at_call 17; (with_reducible refine (same_eq _ _ l3 l4 _ (s3.kept (by first | exact Kept.rfl' _ | exact kept_alloc _ _ | exact kept_drew _ | exact kept_drewN _ _ | exact (kept_drew _).drewN _)) (s4.kept (by first | exact Kept.rfl' _ | exact kept_alloc _ _ | exact kept_drew _ | exact kept_drewN _ _ | exact (kept_drew _).drewN _)) E4.out).mono ?_); rintro e wx ⟨rfl, kx⟩; have hst := Kept.from hcur (by first | exact Kept.rfl' _ | exact kept_alloc _ _ | exact kept_drew _ | exact kept_drewN _ _ | exact (kept_drew _).drewN _) kx; clear hcur kx; have hcur := cur wx; have hkc := hkc.tr hst; have ff := ff.kept hst; have sps := sps.kept hst; have sqs := sqs.kept hst; (first | (have s3 := s3.kept hst) | skip); (first | (have s4 := s4.kept hst) | skip); clear hst; have d0 := ff.b.h0; have d1 := ff.b.h1; have d2 := ff.b.h2))
  go_ret
  exact ⟨ret_bool (by first | rfl | (simp; done) | (simp; omega)), hkc⟩
end Go.Proofs.Ytmnbcnbhnclkhaa
