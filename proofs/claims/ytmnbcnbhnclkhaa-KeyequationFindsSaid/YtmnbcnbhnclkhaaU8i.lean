/- The walk of the law KeyequationFinds. No conditions. -/
import Derived.Test.YtmnbcnbhnclkhaaNgA
import Derived.Test.YtmnbcnbhnclkhaaZaA
import Derived.Test.YtmnbcnbhnclkhaaZaA
namespace Go.Proofs.Ytmnbcnbhnclkhaa
open Go.RowKit Cw

theorem kSolve_pair0 (b : Nat) (G : GFd) (t : Tabs G) (vs : Value) (s : List Int) (r : Nat) (w : World) (hg : IsGF w b G) (hs : Sl w vs s) (ns : s.length ≤ 1000) (hr1 : 1 ≤ r) (hr2 : r ≤ 256) {L V : Pl (Rs t.fs.mon)} (hp : Pl.PairP (t.pl s) r 0 L V) :
    Calls Try.prog 19 #[.pointer (some ⟨b, 0, none⟩), vs, .int .i64 r, .int .i64 0] w (OutS G t (t.pl s) r 0 w) := by
  have H := kSolve_pair b G t vs s r 0 w hg hs ns hr1 hr2 (by omega) hp
  rw [show ((0 : Nat) : Int) = 0 from rfl] at H
  exact H
theorem loc_eq {G : GFd} {t : Tabs G} {l m ps : List Int} (h1 : t.pl l = Pl.lcf (eF t ps) ps.length) (h2 : t.pl m = Pl.lcf (fun i => t.e (ps.getD i 0)) ps.length) : t.pl l = t.pl m := h1.trans h2.symm
theorem syp_len {G : GFd} {t : Tabs G} {ps qs l : List Int} {r : Nat} (h : SyP t ps qs r (t.pl l)) (hc : Cano G l) : l.length ≤ r := by
  rw [← t.can_ln hc]
  exact Pl.ln_le.2 fun i hi => by rw [h i, if_neg (by omega)]
theorem find_pair {G : GFd} {t : Tabs G} {ps qs : List Int} {r : Nat} {P : Pl (Rs t.fs.mon)} (hS : SyP t ps qs r P) (hE : ErrP G ps qs) (h2 : 2 * ps.length ≤ r) :
    Pl.PairP P r 0 (Pl.lcf (eF t ps) ps.length) (Pl.evr (eF t ps) (eF t qs) ps.length) ∧ Pl.Cop (Pl.lcf (eF t ps) ps.length) (Pl.evr (eF t ps) (eF t qs) ps.length) := by
  have h := era_list hS (kn := []) (pts := ps) rfl hE.2.2 (fun i hi => by simpa using (hE.1 i hi).2) (by simpa using h2)
  simp only [List.length_nil] at h
  rw [show P * Pl.lcf (eF t []) 0 = P from Rg.mul_one _] at h
  exact h
theorem inn_ne {q x : Int} (h : inn q x ≠ 0) : inn q x = x := by
  unfold inn at h ⊢
  split
  · rfl
  · rename_i g; rw [if_neg g] at h; exact absurd rfl h
set_option maxRecDepth 100000 in
set_option maxHeartbeats 8000000 in
theorem keyequationFinds_law (P M : Int) (vm : Value) (mod : List Int) (vps vqs vam : Value) (ps qs am : List Int) (r : Int) (w : World) (hvm : Sl w vm mod) (hps : Sl w vps ps) (hqs : Sl w vqs qs) (ham : Sl w vam am) :
    Calls Try.prog 6 #[.agg #[.int .i64 P, .int .i64 M, vm], .agg #[vps, vqs, vam], .int .i64 r] w fun e w' => e = .returned (.bool true) ∧ Kept w w' := by
  have hkc := kept_alloc w (.cells #[.int .i64 P, .int .i64 M, vm] 24)
  have bb := boxF_new w P M vm 24
  have sm := hvm.kept hkc
  have hkb := kept_alloc (w.alloc (.cells #[.int .i64 P, .int .i64 M, vm] 24)) (.cells #[vps, vqs, vam] 43)
  have bx00 : Bx ((w.alloc (.cells #[.int .i64 P, .int .i64 M, vm] 24)).alloc (.cells #[vps, vqs, vam] 43)) (w.heap.size + 1) 0 (vps) := ⟨by simp, by simp⟩
  have bx01 : Bx ((w.alloc (.cells #[.int .i64 P, .int .i64 M, vm] 24)).alloc (.cells #[vps, vqs, vam] 43)) (w.heap.size + 1) 1 (vqs) := ⟨by simp, by simp⟩
  have bx02 : Bx ((w.alloc (.cells #[.int .i64 P, .int .i64 M, vm] 24)).alloc (.cells #[vps, vqs, vam] 43)) (w.heap.size + 1) 2 (vam) := ⟨by simp, by simp⟩
  have bb := bb.kept hkb
  have sm := sm.kept hkb
  have hkc := hkc.tr hkb
  clear hkb
  have sps := hps.kept hkc
  obtain ⟨aps, capps, rfl, qps1, ⟨qps2, _⟩, _⟩ := hps
  unfold maxLen at qps2
  have sqs := hqs.kept hkc
  obtain ⟨aqs, capqs, rfl, qqs1, ⟨qqs2, _⟩, _⟩ := hqs
  unfold maxLen at qqs2
  have sam := ham.kept hkc
  obtain ⟨aam, capam, rfl, qam1, ⟨qam2, _⟩, _⟩ := ham
  unfold maxLen at qam2
  obtain ⟨W0, hW0⟩ : ∃ x, x = ((w.alloc (.cells #[.int .i64 P, .int .i64 M, vm] 24)).alloc (.cells #[.slice aps ps.length capps, .slice aqs qs.length capqs, .slice aam am.length capam] 43)) := ⟨_, rfl⟩
  rw [← hW0] at hkc bb sm sps sqs sam bx00 bx01 bx02
  go_enter Try.func6, Try.ntmps6
  go_wp2_with (fail)
  rw [← hW0]
  clear hW0
  go_wp2_with (go_at_call 13; (with_reducible refine (alive5_any _).mono ?_); rintro e w1 ⟨rfl, ka⟩; have bb := bb.kept ka; have sm := sm.kept ka; have hkc := hkc.tr ka; have sps := sps.kept ka; have sqs := sqs.kept ka; have sam := sam.kept ka; have bx00 := bx00.kept ka; have bx01 := bx01.kept ka; have bx02 := bx02.kept ka; have d0 := bb.h0; have d1 := bb.h1; have d2 := bb.h2; clear ka)
  by_cases hf : FieldP P M mod
  case neg =>
    have HF := hid hf
    clear hf
    go_wp2_with (go_at_call 14; (with_reducible refine (made5_no P M vm mod _ sm HF.out).mono ?_); rintro e w2 ⟨rfl, k2⟩; have sps := sps.kept k2; have sqs := sqs.kept k2; have sam := sam.kept k2; have bx00 := bx00.kept k2; have bx01 := bx01.kept k2; have bx02 := bx02.kept k2; have cbx00 := bx00.h; have cbx01 := bx01.h; have cbx02 := bx02.h)
    go_quiet (fail)
    go_wp2_with (fail)
    go_ret
    exact ⟨rfl, hkc.tr (k2.drewN _)⟩
  have HF := hid hf
  clear hf
  by_cases hs : Shrt [ps, qs, am]
  case neg =>
    have HS := hid hs
    clear hs
    go_wp2_with (first
      | (go_at_call 14; (with_reducible refine (made5_yes P M vm mod _ sm HF.out).mono ?_); rintro e w2 ⟨b, G, rfl, g2, t, gP, gM, gm, k2⟩; have HO : Hid (Of G P M mod) := hid ⟨gP, gM, gm⟩; clear gP gM gm; have hkc := hkc.tr k2; have ff : Fw w2 b G w.heap.size P M vm mod := ⟨g2, bb.kept k2, sm.kept k2⟩; have sps := sps.kept k2; have sqs := sqs.kept k2; have sam := sam.kept k2; have bx00 := bx00.kept k2; have bx01 := bx01.kept k2; have bx02 := bx02.kept k2; have cbx00 := bx00.h; have cbx01 := bx01.h; have cbx02 := bx02.h; have d0 := ff.b.h0; have d1 := ff.b.h1; have d2 := ff.b.h2; clear k2 g2 bb sm; have hcur := cur w2))
    go_quiet (fail)
    clear bx00 cbx00
    clear bx01 cbx01
    clear bx02 cbx02
    go_wp2_with (first
      | (go_at_call 15; (with_reducible refine (short_r _ [ps, qs, am] _ (sllb_three _ _ (drewN_sz _ _) _ _ _ _ _ _ _ _ _ _ (sps.kept (kept_drewN _ _)) (sqs.kept (kept_drewN _ _)) (sam.kept (kept_drewN _ _))) false (.inr ⟨rfl, HS.out⟩)).mono ?_); rintro e w3 ⟨rfl, k3⟩; have hst := Kept.tr (kept_drewN _ _) (Kept.tr (kept_alloc _ _) k3); have hkc := hkc.tr hst; have ff := ff.kept hst; have sps := sps.kept hst; have sqs := sqs.kept hst; have sam := sam.kept hst; clear hst k3 hcur; have hcur := cur w3; have d0 := ff.b.h0; have d1 := ff.b.h1; have d2 := ff.b.h2))
    go_ret
    exact ⟨rfl, hkc⟩
  have HS := hid hs
  have nps : ps.length ≤ 20 := hs _ (by simp)
  have nqs : qs.length ≤ 20 := hs _ (by simp)
  have nam : am.length ≤ 20 := hs _ (by simp)
  clear hs
  go_wp2_with (first
    | (go_at_call 14; (with_reducible refine (made5_yes P M vm mod _ sm HF.out).mono ?_); rintro e w2 ⟨b, G, rfl, g2, t, gP, gM, gm, k2⟩; have HO : Hid (Of G P M mod) := hid ⟨gP, gM, gm⟩; clear gP gM gm; have hkc := hkc.tr k2; have ff : Fw w2 b G w.heap.size P M vm mod := ⟨g2, bb.kept k2, sm.kept k2⟩; have sps := sps.kept k2; have sqs := sqs.kept k2; have sam := sam.kept k2; have bx00 := bx00.kept k2; have bx01 := bx01.kept k2; have bx02 := bx02.kept k2; have cbx00 := bx00.h; have cbx01 := bx01.h; have cbx02 := bx02.h; have d0 := ff.b.h0; have d1 := ff.b.h1; have d2 := ff.b.h2; clear k2 g2 bb sm; have hcur := cur w2))
  go_quiet (fail)
  clear bx00 cbx00
  clear bx01 cbx01
  clear bx02 cbx02
  by_cases hr : r < 1 ∨ 24 < r
  · have hcs : r < 1 ∨ (1 ≤ r ∧ 24 < r) := by omega
    clear hr
    rcases hcs with g1 | ⟨g1, g2⟩
    all_goals
      go_wp2_with (first
        | (go_at_call 15; (with_reducible refine (short_r _ [ps, qs, am] _ (sllb_three _ _ (drewN_sz _ _) _ _ _ _ _ _ _ _ _ _ (sps.kept (kept_drewN _ _)) (sqs.kept (kept_drewN _ _)) (sam.kept (kept_drewN _ _))) true (.inl ⟨rfl, HS.out⟩)).mono ?_); rintro e w3 ⟨rfl, k3⟩; have hst := Kept.tr (kept_drewN _ _) (Kept.tr (kept_alloc _ _) k3); have hkc := hkc.tr hst; have ff := ff.kept hst; have sps := sps.kept hst; have sqs := sqs.kept hst; have sam := sam.kept hst; clear hst k3 hcur; have hcur := cur w3; have d0 := ff.b.h0; have d1 := ff.b.h1; have d2 := ff.b.h2))
      go_ret
      exact ⟨ret_bool (by first | rfl | (simp; done) | (simp; omega)), hkc⟩
  obtain ⟨R, hR⟩ := Int.eq_ofNat_of_zero_le (show 0 ≤ r by omega)
  have R1 : 1 ≤ R := by omega
  have R2 : R ≤ 24 := by omega
  have r1 : (1 : Int) ≤ (R : Int) := by omega
  have r2 : (R : Int) ≤ 24 := by omega
  rw [hR]
  clear hR hr
  have w1' : IntKind.i64.wrap (2 * (ps.length : Int)) = 2 * (ps.length : Int) := IntWalk.i64_in _ (by omega)
  by_cases h2 : R < 2 * ps.length
  · have g2 : (R : Int) < 2 * (ps.length : Int) := by omega
    clear h2
    go_wp2_with (first
      | (go_at_call 15; (with_reducible refine (short_r _ [ps, qs, am] _ (sllb_three _ _ (drewN_sz _ _) _ _ _ _ _ _ _ _ _ _ (sps.kept (kept_drewN _ _)) (sqs.kept (kept_drewN _ _)) (sam.kept (kept_drewN _ _))) true (.inl ⟨rfl, HS.out⟩)).mono ?_); rintro e w3 ⟨rfl, k3⟩; have hst := Kept.tr (kept_drewN _ _) (Kept.tr (kept_alloc _ _) k3); have hkc := hkc.tr hst; have ff := ff.kept hst; have sps := sps.kept hst; have sqs := sqs.kept hst; have sam := sam.kept hst; clear hst k3 hcur; have hcur := cur w3; have d0 := ff.b.h0; have d1 := ff.b.h1; have d2 := ff.b.h2))
    go_ret
    exact ⟨ret_bool (by first | rfl | (simp; done) | (simp; omega)), hkc⟩
  have g2 : 2 * (ps.length : Int) ≤ (R : Int) := by omega
  have h2' : 2 * ps.length ≤ R := by omega
  clear h2
  by_cases hE : ErrP G ps qs
  case neg =>
    have HE := hid (bif_no hE)
    clear hE
    go_wp2_with (first
      | (go_at_call 15; (with_reducible refine (short_r _ [ps, qs, am] _ (sllb_three _ _ (drewN_sz _ _) _ _ _ _ _ _ _ _ _ _ (sps.kept (kept_drewN _ _)) (sqs.kept (kept_drewN _ _)) (sam.kept (kept_drewN _ _))) true (.inl ⟨rfl, HS.out⟩)).mono ?_); rintro e w3 ⟨rfl, k3⟩; have hst := Kept.tr (kept_drewN _ _) (Kept.tr (kept_alloc _ _) k3); have hkc := hkc.tr hst; have ff := ff.kept hst; have sps := sps.kept hst; have sqs := sqs.kept hst; have sam := sam.kept hst; clear hst k3 hcur; have hcur := cur w3; have d0 := ff.b.h0; have d1 := ff.b.h1; have d2 := ff.b.h2)
      | (go_at_call 24; (with_reducible refine (rkErr_r G t P M mod vm _ _ ps qs false _ HO (sps.kept (by first | exact Kept.rfl' _ | exact kept_alloc _ _ | exact kept_drew _ | exact kept_drewN _ _ | exact (kept_drew _).drewN _)) (sqs.kept (by first | exact Kept.rfl' _ | exact kept_alloc _ _ | exact kept_drew _ | exact kept_drewN _ _ | exact (kept_drew _).drewN _)) (by omega) HE.out).mono ?_); rintro e wx ⟨rfl, kx⟩; have hst := Kept.from hcur (by first | exact Kept.rfl' _ | exact kept_alloc _ _ | exact kept_drew _ | exact kept_drewN _ _ | exact (kept_drew _).drewN _) kx; clear hcur kx; have hcur := cur wx; have hkc := hkc.tr hst; have ff := ff.kept hst; have sps := sps.kept hst; have sqs := sqs.kept hst; have sam := sam.kept hst; (first | (have s4 := s4.kept hst) | skip); (first | (have s5 := s5.kept hst) | skip); (first | (have s6 := s6.kept hst) | skip); (first | (have s7 := s7.kept hst) | skip); clear hst; have d0 := ff.b.h0; have d1 := ff.b.h1; have d2 := ff.b.h2))
    go_ret
    exact ⟨ret_bool (by first | rfl | (simp; done) | (simp; omega)), hkc⟩
  have HE := hid (bif_yes hE)
  have HEE := hid hE
  have HL := hid hE.2.1
  clear hE
  go_wp2_with (first
    | (go_at_call 15; (with_reducible refine (short_r _ [ps, qs, am] _ (sllb_three _ _ (drewN_sz _ _) _ _ _ _ _ _ _ _ _ _ (sps.kept (kept_drewN _ _)) (sqs.kept (kept_drewN _ _)) (sam.kept (kept_drewN _ _))) true (.inl ⟨rfl, HS.out⟩)).mono ?_); rintro e w3 ⟨rfl, k3⟩; have hst := Kept.tr (kept_drewN _ _) (Kept.tr (kept_alloc _ _) k3); have hkc := hkc.tr hst; have ff := ff.kept hst; have sps := sps.kept hst; have sqs := sqs.kept hst; have sam := sam.kept hst; clear hst k3 hcur; have hcur := cur w3; have d0 := ff.b.h0; have d1 := ff.b.h1; have d2 := ff.b.h2)
    | (go_at_call 24; (with_reducible refine (rkErr_r G t P M mod vm _ _ ps qs true _ HO (sps.kept (by first | exact Kept.rfl' _ | exact kept_alloc _ _ | exact kept_drew _ | exact kept_drewN _ _ | exact (kept_drew _).drewN _)) (sqs.kept (by first | exact Kept.rfl' _ | exact kept_alloc _ _ | exact kept_drew _ | exact kept_drewN _ _ | exact (kept_drew _).drewN _)) (by omega) HE.out).mono ?_); rintro e wx ⟨rfl, kx⟩; have hst := Kept.from hcur (by first | exact Kept.rfl' _ | exact kept_alloc _ _ | exact kept_drew _ | exact kept_drewN _ _ | exact (kept_drew _).drewN _) kx; clear hcur kx; have hcur := cur wx; have hkc := hkc.tr hst; have ff := ff.kept hst; have sps := sps.kept hst; have sqs := sqs.kept hst; have sam := sam.kept hst; (first | (have s4 := s4.kept hst) | skip); (first | (have s5 := s5.kept hst) | skip); (first | (have s6 := s6.kept hst) | skip); (first | (have s7 := s7.kept hst) | skip); clear hst; have d0 := ff.b.h0; have d1 := ff.b.h1; have d2 := ff.b.h2)
    | (go_at_call 18; (with_reducible refine (rkSyn_p G t P M mod vm _ _ ps qs R _ HO (ff.m.kept (by first | exact Kept.rfl' _ | exact kept_alloc _ _ | exact kept_drew _ | exact kept_drewN _ _ | exact (kept_drew _).drewN _)) (sps.kept (by first | exact Kept.rfl' _ | exact kept_alloc _ _ | exact kept_drew _ | exact kept_drewN _ _ | exact (kept_drew _).drewN _)) (sqs.kept (by first | exact Kept.rfl' _ | exact kept_alloc _ _ | exact kept_drew _ | exact kept_drewN _ _ | exact (kept_drew _).drewN _)) (by omega) HL.out (by omega)).mono ?_); rintro e wx ⟨v4, l4, rfl, o4, kx, c4, y4⟩; have hst := Kept.from hcur (by first | exact Kept.rfl' _ | exact kept_alloc _ _ | exact kept_drew _ | exact kept_drewN _ _ | exact (kept_drew _).drewN _) kx; clear hcur kx; have hcur := cur wx; have hkc := hkc.tr hst; have ff := ff.kept hst; have sps := sps.kept hst; have sqs := sqs.kept hst; have sam := sam.kept hst; (first | (have s4 := s4.kept hst) | skip); (first | (have s5 := s5.kept hst) | skip); (first | (have s6 := s6.kept hst) | skip); (first | (have s7 := s7.kept hst) | skip); clear hst; have d0 := ff.b.h0; have d1 := ff.b.h1; have d2 := ff.b.h2; have s4 := o4.sl; have n4 : l4.length ≤ 1000 := (by have := syp_len y4 c4; omega); have HPC := hid (find_pair y4 HEE.out h2'); clear y4 o4)
    | (go_at_call 19; (with_reducible refine (kSolve_pair0 b G t _ l4 R _ (ff.g.kept (by first | exact Kept.rfl' _ | exact kept_alloc _ _ | exact kept_drew _ | exact kept_drewN _ _ | exact (kept_drew _).drewN _)) (s4.kept (by first | exact Kept.rfl' _ | exact kept_alloc _ _ | exact kept_drew _ | exact kept_drewN _ _ | exact (kept_drew _).drewN _)) n4 R1 (by omega) HPC.out.1).mono ?_); rintro e wx ⟨v5, v6, l5, l6, rfl, o5, o6, kx, c5, c6, hsp⟩; have hst := Kept.from hcur (by first | exact Kept.rfl' _ | exact kept_alloc _ _ | exact kept_drew _ | exact kept_drewN _ _ | exact (kept_drew _).drewN _) kx; clear hcur kx; have hcur := cur wx; have hkc := hkc.tr hst; have ff := ff.kept hst; have sps := sps.kept hst; have sqs := sqs.kept hst; have sam := sam.kept hst; (first | (have s4 := s4.kept hst) | skip); (first | (have s5 := s5.kept hst) | skip); (first | (have s6 := s6.kept hst) | skip); (first | (have s7 := s7.kept hst) | skip); clear hst; have d0 := ff.b.h0; have d1 := ff.b.h1; have d2 := ff.b.h2; have s5 := o5.sl; have s6 := o6.sl; obtain ⟨n5, n6⟩ := solv_len hsp c5 c6 R2 (Nat.zero_le _); have E5 := hid (hsp.eq HPC.out.1 HPC.out.2); clear hsp o5 o6)
    | (go_at_call 25; (with_reducible refine (rkLocator_p G t P M mod vm _ ps _ HO (ff.m.kept (by first | exact Kept.rfl' _ | exact kept_alloc _ _ | exact kept_drew _ | exact kept_drewN _ _ | exact (kept_drew _).drewN _)) (sps.kept (by first | exact Kept.rfl' _ | exact kept_alloc _ _ | exact kept_drew _ | exact kept_drewN _ _ | exact (kept_drew _).drewN _)) (by omega)).mono ?_); rintro e wx ⟨v7, l7, rfl, o7, kx, c7, p7⟩; have hst := Kept.from hcur (by first | exact Kept.rfl' _ | exact kept_alloc _ _ | exact kept_drew _ | exact kept_drewN _ _ | exact (kept_drew _).drewN _) kx; clear hcur kx; have hcur := cur wx; have hkc := hkc.tr hst; have ff := ff.kept hst; have sps := sps.kept hst; have sqs := sqs.kept hst; have sam := sam.kept hst; (first | (have s4 := s4.kept hst) | skip); (first | (have s5 := s5.kept hst) | skip); (first | (have s6 := s6.kept hst) | skip); (first | (have s7 := s7.kept hst) | skip); clear hst; have d0 := ff.b.h0; have d1 := ff.b.h1; have d2 := ff.b.h2; have s7 := o7.sl; have P7 := hid p7; clear p7 o7)
    | (go_at_call 17; (with_reducible refine (same_eq _ _ l5 l7 _ (s5.kept (by first | exact Kept.rfl' _ | exact kept_alloc _ _ | exact kept_drew _ | exact kept_drewN _ _ | exact (kept_drew _).drewN _)) (s7.kept (by first | exact Kept.rfl' _ | exact kept_alloc _ _ | exact kept_drew _ | exact kept_drewN _ _ | exact (kept_drew _).drewN _)) (t.pl_inj c5 c7 (loc_eq E5.out.1 P7.out))).mono ?_); rintro e wx ⟨rfl, kx⟩; have hst := Kept.from hcur (by first | exact Kept.rfl' _ | exact kept_alloc _ _ | exact kept_drew _ | exact kept_drewN _ _ | exact (kept_drew _).drewN _) kx; clear hcur kx; have hcur := cur wx; have hkc := hkc.tr hst; have ff := ff.kept hst; have sps := sps.kept hst; have sqs := sqs.kept hst; have sam := sam.kept hst; (first | (have s4 := s4.kept hst) | skip); (first | (have s5 := s5.kept hst) | skip); (first | (have s6 := s6.kept hst) | skip); (first | (have s7 := s7.kept hst) | skip); clear hst; have d0 := ff.b.h0; have d1 := ff.b.h1; have d2 := ff.b.h2))
  obtain ⟨wL, hwL⟩ : ∃ x, x = wx := ⟨_, rfl⟩
  subst hwL
  have HQ : Hid (ordS P M = G.q) := hid (by rw [← HO.out.1, ← HO.out.2.1, ← t.hq])
  clear s4 s7
  go_loopw [14, 90] (fun vo vi wr => ∃ i : Nat, i ≤ am.length ∧ vi = .int .i64 i ∧ Own wr wL.heap.size vo (chL (chS G l5 am) i) ∧ Kept wL wr) (fun _ vi _ => am.length - (intOf vi).toNat)
  case atStart => exact ⟨0, by omega, rfl, own_nil _ _, Kept.rfl' _⟩
  case round =>
    obtain ⟨i, hi, rfl, hwant, hkw⟩ := hrel
    have ff := ff.kept hkw
    have sps := sps.kept hkw
    have sqs := sqs.kept hkw
    have sam := sam.kept hkw
    have s5 := s5.kept hkw
    have s6 := s6.kept hkw
    have hkc := hkc.tr hkw
    have d0 := ff.b.h0
    have d1 := ff.b.h1
    have d2 := ff.b.h2
    clear hcur
    have hcur := cur wr
    by_cases hlt : i < am.length
    case neg =>
      obtain rfl : i = am.length := by omega
      obtain ⟨wM, hwM⟩ : ∃ x, x = wr := ⟨_, rfl⟩
      subst hwM
      clear hlt hkw
      go_wp2_with (fail)
      go_loopw [118] (fun vi wr => ∃ i : Nat, i ≤ ps.length ∧ vi = .int .i64 i ∧ Kept wM wr) (fun vi _ => ps.length - (intOf vi).toNat)
      case atStart => exact ⟨0, by omega, rfl, Kept.rfl' _⟩
      case round =>
        obtain ⟨i, hi, rfl, hkw⟩ := hrel
        have ff := ff.kept hkw
        have sps := sps.kept hkw
        have sqs := sqs.kept hkw
        have sam := sam.kept hkw
        have s5 := s5.kept hkw
        have s6 := s6.kept hkw
        have hwant := hwant.kept hkw
        have hkc := hkc.tr hkw
        have d0 := ff.b.h0
        have d1 := ff.b.h1
        have d2 := ff.b.h2
        clear hcur
        have hcur := cur wr
        have hkw' := hkw
        by_cases hlt : i < ps.length
        case neg =>
          have hge : (ps.length : Int) ≤ (i : Int) := by omega
          have swt := hwant.sl
          clear hlt
          go_wp2_with (first
            | (go_at_call 28; (with_reducible refine (kChien_p b G t _ _ l5 am _ (ff.g.kept (by first | exact Kept.rfl' _ | exact kept_alloc _ _ | exact kept_drew _ | exact kept_drewN _ _ | exact (kept_drew _).drewN _)) (s5.kept (by first | exact Kept.rfl' _ | exact kept_alloc _ _ | exact kept_drew _ | exact kept_drewN _ _ | exact (kept_drew _).drewN _)) (sam.kept (by first | exact Kept.rfl' _ | exact kept_alloc _ _ | exact kept_drew _ | exact kept_drewN _ _ | exact (kept_drew _).drewN _)) (by omega)).mono ?_); rintro e wx ⟨v9, rfl, o9, kx⟩; have hst := Kept.from hcur (by first | exact Kept.rfl' _ | exact kept_alloc _ _ | exact kept_drew _ | exact kept_drewN _ _ | exact (kept_drew _).drewN _) kx; clear hcur kx; have hcur := cur wx; have hkc := hkc.tr hst; have ff := ff.kept hst; have sps := sps.kept hst; have sqs := sqs.kept hst; have sam := sam.kept hst; (first | (have s4 := s4.kept hst) | skip); (first | (have s5 := s5.kept hst) | skip); (first | (have s6 := s6.kept hst) | skip); (first | (have s7 := s7.kept hst) | skip); (first | (have hwant := hwant.kept hst) | skip); (first | (have s9 := s9.kept hst) | skip); (first | (have swt := swt.kept hst) | skip); (first | (have hkw' := hkw'.tr hst) | skip); (first | (have hreg := hreg.tr hst) | skip); clear hst; have d0 := ff.b.h0; have d1 := ff.b.h1; have d2 := ff.b.h2; have s9 := o9.sl; clear o9)
            | (go_at_call 17; (with_reducible refine (same_eq _ _ (chL (chS G l5 am) am.length) (chL (chS G l5 am) am.length) _ (s9.kept (by first | exact Kept.rfl' _ | exact kept_alloc _ _ | exact kept_drew _ | exact kept_drewN _ _ | exact (kept_drew _).drewN _)) (swt.kept (by first | exact Kept.rfl' _ | exact kept_alloc _ _ | exact kept_drew _ | exact kept_drewN _ _ | exact (kept_drew _).drewN _)) rfl).mono ?_); rintro e wx ⟨rfl, kx⟩; have hst := Kept.from hcur (by first | exact Kept.rfl' _ | exact kept_alloc _ _ | exact kept_drew _ | exact kept_drewN _ _ | exact (kept_drew _).drewN _) kx; clear hcur kx; have hcur := cur wx; have hkc := hkc.tr hst; have ff := ff.kept hst; have sps := sps.kept hst; have sqs := sqs.kept hst; have sam := sam.kept hst; (first | (have s4 := s4.kept hst) | skip); (first | (have s5 := s5.kept hst) | skip); (first | (have s6 := s6.kept hst) | skip); (first | (have s7 := s7.kept hst) | skip); (first | (have hwant := hwant.kept hst) | skip); (first | (have s9 := s9.kept hst) | skip); (first | (have swt := swt.kept hst) | skip); (first | (have hkw' := hkw'.tr hst) | skip); (first | (have hreg := hreg.tr hst) | skip); clear hst; have d0 := ff.b.h0; have d1 := ff.b.h1; have d2 := ff.b.h2))
          go_ret
          exact ⟨ret_bool (by first | rfl | (simp; done) | (simp; omega)), hkc⟩
        have hlt2 : i < qs.length := by have := HL.out; omega
        have zr := sps
        obtain ⟨_, _, e1, _, _, hc⟩ := zr
        cases e1
        obtain ⟨bp1, off1, e2, hbp1, hcell⟩ := hc (by intro e; rw [e] at hlt; simp at hlt)
        cases e2
        have hck1 := hcell i hlt
        obtain ⟨z, hz1⟩ : ∃ z, z = ps.getD i 0 := ⟨_, rfl⟩
        rw [← hz1] at hck1
        have HZ1 := hid hz1
        clear hz1 hcell hc
        have zr := sqs
        obtain ⟨_, _, e1, _, _, hc⟩ := zr
        cases e1
        obtain ⟨bp2, off2, e2, hbp2, hcell⟩ := hc (by intro e; rw [e] at hlt2; simp at hlt2)
        cases e2
        have hck2 := hcell i hlt2
        obtain ⟨y, hz2⟩ : ∃ z, z = qs.getD i 0 := ⟨_, rfl⟩
        rw [← hz2] at hck2
        have HZ2 := hid hz2
        clear hz2 hcell hc
        have HYY : Hid (inn G.q (qs.getD i 0) = y) := hid (by rw [HZ2.out]; exact inn_ne (HEE.out.1 i hlt).2)
        have HFR := hid (frn_list E5.out.1 E5.out.2 HEE.out.2.2 hlt (HEE.out.1 i hlt).1)
        rw [HYY.out, ← HZ1.out] at HFR
        have hki : (i : Int) < (ps.length : Int) := by omega
        have hki2 : (i : Int) < (qs.length : Int) := by omega
        have k0 : (0 : Int) ≤ (i : Int) := by omega
        have hreg := Kept.rfl' wr
        go_wp2_with (first
          | (go_at_call 27; (with_reducible refine (kForney_p b G t _ _ l5 l6 z _ (ff.g.kept (by first | exact Kept.rfl' _ | exact kept_alloc _ _ | exact kept_drew _ | exact kept_drewN _ _ | exact (kept_drew _).drewN _)) (s5.kept (by first | exact Kept.rfl' _ | exact kept_alloc _ _ | exact kept_drew _ | exact kept_drewN _ _ | exact (kept_drew _).drewN _)) (s6.kept (by first | exact Kept.rfl' _ | exact kept_alloc _ _ | exact kept_drew _ | exact kept_drewN _ _ | exact (kept_drew _).drewN _)) (by omega)).mono ?_); rintro e wx ⟨x8, k8, rfl, f8, kx⟩; have hst := Kept.from hcur (by first | exact Kept.rfl' _ | exact kept_alloc _ _ | exact kept_drew _ | exact kept_drewN _ _ | exact (kept_drew _).drewN _) kx; clear hcur kx; have hcur := cur wx; have hkc := hkc.tr hst; have ff := ff.kept hst; have sps := sps.kept hst; have sqs := sqs.kept hst; have sam := sam.kept hst; (first | (have s4 := s4.kept hst) | skip); (first | (have s5 := s5.kept hst) | skip); (first | (have s6 := s6.kept hst) | skip); (first | (have s7 := s7.kept hst) | skip); (first | (have hwant := hwant.kept hst) | skip); (first | (have hkw' := hkw'.tr hst) | skip); (first | (have hreg := hreg.tr hst) | skip); clear hst; have d0 := ff.b.h0; have d1 := ff.b.h1; have d2 := ff.b.h2; have hck3 := (Kept.cell' hreg hbp2).trans hck2; obtain ⟨e8, e9⟩ := f8.eq HFR.out; subst e8 e9; clear f8))
        go_roundw
        case rel => exact ⟨i + 1, by omega, by go_num, hkw'⟩
        case measure => simp [intOf]; omega
    have zr := sam
    obtain ⟨_, _, e1, _, _, hc⟩ := zr
    cases e1
    obtain ⟨bp1, off1, e2, hbp1, hcell⟩ := hc (by intro e; rw [e] at hlt; simp at hlt)
    cases e2
    have hck1 := hcell i hlt
    obtain ⟨z, hz1⟩ : ∃ z, z = am.getD i 0 := ⟨_, rfl⟩
    rw [← hz1] at hck1
    have HZ1 := hid hz1
    clear hz1 hcell hc
    have hki : (i : Int) < (am.length : Int) := by omega
    have k0 : (0 : Int) ≤ (i : Int) := by omega
    have hchl := chL_len (chS G l5 am) i
    have hch := ch_loc (t := t) E5.out.1 am i
    rw [← HZ1.out] at hch
    have HCH := hid hch
    obtain ⟨x, hx⟩ : ∃ x, x = inn G.q z := ⟨_, rfl⟩
    have HX : Hid (inn (ordS P M) z = x) := hid (by rw [HQ.out, hx])
    have HXX := hid hx
    obtain ⟨wO, hwO⟩ : ∃ x, x = wr := ⟨_, rfl⟩
    subst hwO
    clear hch hx
    go_wp2_with (fail)
    go_loopw [17, 97] (fun vb vj wr => ∃ (j : Nat) (bk : Bool), j ≤ ps.length ∧ vj = .int .i64 j ∧ vb = .bool bk ∧ BIff bk (∃ i, i < j ∧ x = ps.getD i 0) ∧ Kept wO wr) (fun _ vj _ => ps.length - (intOf vj).toNat)
    case atStart => exact ⟨0, false, by omega, rfl, rfl, ⟨(fun h => by cases h), fun ⟨i, hi, _⟩ => by omega⟩, Kept.rfl' _⟩
    case round =>
      obtain ⟨j, bk, hj, rfl, rfl, hb, hkw2⟩ := hrel
      have ff := ff.kept hkw2
      have sps := sps.kept hkw2
      have sqs := sqs.kept hkw2
      have sam := sam.kept hkw2
      have s5 := s5.kept hkw2
      have s6 := s6.kept hkw2
      have hwant := hwant.kept hkw2
      have hkc := hkc.tr hkw2
      have d0 := ff.b.h0
      have d1 := ff.b.h1
      have d2 := ff.b.h2
      clear hcur
      have hcur := cur wr
      have hkw' := hkw2
      by_cases hjl : j < ps.length
      case neg =>
        have hge : (ps.length : Int) ≤ (j : Int) := by omega
        have HB : Hid (chS G l5 am i = bk) := hid (by
          have h1 : bk = true ↔ ∃ i, i < ps.length ∧ x = ps.getD i 0 := by rw [show ps.length = j by omega]; exact hb
          have h2 : chS G l5 am i = true ↔ ∃ i, i < ps.length ∧ x = ps.getD i 0 := by
            rw [HCH.out, ← HXX.out]
            constructor
            · rintro ⟨_, k, hk, e⟩
              exact ⟨k, hk, by rw [← e]; exact inn_ne (HEE.out.1 k hk).1⟩
            · rintro ⟨k, hk, e⟩
              have h3 := (HEE.out.1 k hk).1
              have h4 := inn_ne h3
              exact ⟨by rw [e, ← h4]; exact h3, k, hk, by rw [h4, e]⟩
          cases hbk : bk with
          | true => exact h2.2 (h1.1 hbk)
          | false =>
            cases hcs : chS G l5 am i with
            | false => rfl
            | true => rw [h1.2 (h2.1 hcs)] at hbk; cases hbk)
        have hst : chL (chS G l5 am) (i + 1) = if chS G l5 am i then chL (chS G l5 am) i ++ [(i : Int)] else chL (chS G l5 am) i := rfl
        rw [HB.out] at hst
        have hkW := hkw.tr hkw2
        clear hjl hb
        cases bk with
        | true =>
          have HST : Hid (chL (chS G l5 am) (i + 1) = chL (chS G l5 am) i ++ [(i : Int)]) := hid hst
          clear hst
          go_wp2_with (at_builtin; (refine wpList_append_one rfl (.tmp 111) (.tmp 113) rfl wL.heap.size _ (chL (chS G l5 am) i) rfl (hwant.kept (kept_alloc _ _)) ⟨wr.heap.size, 0, none⟩ i rfl (cell_new rfl) (by omega) (by have := hkW.size; simp; omega) ?_); intro v3 w3 o3 gr3; have k3 : Kept wL w3 := below_append (hkW.tr (kept_alloc _ _)) (by have := hkW.size; simp; omega) (hwant.kept (kept_alloc _ _)) (Nat.le_refl _) gr3)
          go_roundw
          case rel => exact ⟨i + 1, by omega, by go_num, by rw [HST.out]; exact o3, k3⟩
          case measure => simp [intOf]; omega
        | false =>
          have HST : Hid (chL (chS G l5 am) (i + 1) = chL (chS G l5 am) i) := hid hst
          clear hst
          go_wp2_with (fail)
          go_roundw
          case rel => exact ⟨i + 1, by omega, by go_num, by rw [HST.out]; exact hwant, hkW⟩
          case measure => simp [intOf]; omega
      have zr := sps
      obtain ⟨_, _, e1, _, _, hc⟩ := zr
      cases e1
      obtain ⟨bp2, off2, e2, hbp2, hcell⟩ := hc (by intro e; rw [e] at hjl; simp at hjl)
      cases e2
      have hck2 := hcell j hjl
      obtain ⟨y, hz2⟩ : ∃ z, z = ps.getD j 0 := ⟨_, rfl⟩
      rw [← hz2] at hck2
      have HZ2 := hid hz2
      clear hz2 hcell hc
      have hji : (j : Int) < (ps.length : Int) := by omega
      have j0 : (0 : Int) ≤ (j : Int) := by omega
      cases bk with
      | true =>
        have hb' : BIff true (∃ i, i < j + 1 ∧ x = ps.getD i 0) := ⟨fun _ => by obtain ⟨i, hi, he⟩ := hb.1 rfl; exact ⟨i, by omega, he⟩, fun _ => rfl⟩
        go_wp2_with (fail)
        go_roundw
        case rel => exact ⟨j + 1, true, by omega, by go_num, rfl, hb', hkw2⟩
        case measure => simp [intOf]; omega
      | false =>
        by_cases hxy : x = y
        · have hb' : BIff true (∃ i, i < j + 1 ∧ x = ps.getD i 0) := ⟨fun _ => ⟨j, by omega, by rw [← HZ2.out]; exact hxy⟩, fun _ => rfl⟩
          have txy : (x == y) = true := by simpa using hxy
          clear hxy
          go_wp2_with (first
            | (go_at_call 26; (with_reducible refine (rIn_any P M vm z _).mono ?_); rintro e wx ⟨rfl, kx⟩; have hst := Kept.from hcur (by first | exact Kept.rfl' _ | exact kept_alloc _ _ | exact kept_drew _ | exact kept_drewN _ _ | exact (kept_drew _).drewN _) kx; clear hcur kx; have hcur := cur wx; have hkc := hkc.tr hst; have ff := ff.kept hst; have sps := sps.kept hst; have sqs := sqs.kept hst; have sam := sam.kept hst; (first | (have s4 := s4.kept hst) | skip); (first | (have s5 := s5.kept hst) | skip); (first | (have s6 := s6.kept hst) | skip); (first | (have s7 := s7.kept hst) | skip); (first | (have hwant := hwant.kept hst) | skip); (first | (have hkw' := hkw'.tr hst) | skip); (first | (have hreg := hreg.tr hst) | skip); clear hst; have d0 := ff.b.h0; have d1 := ff.b.h1; have d2 := ff.b.h2; rw [HX.out]))
          go_roundw
          case rel => exact ⟨j + 1, true, by omega, by go_num, rfl, hb', hkw'⟩
          case measure => simp [intOf]; omega
        · have hb' : BIff false (∃ i, i < j + 1 ∧ x = ps.getD i 0) := ⟨fun h => by (cases h), fun ⟨i, hi, he⟩ => by
            by_cases e : i = j
            · subst e; exact absurd (he.trans HZ2.out.symm) hxy
            · exact hb.2 ⟨i, by omega, he⟩⟩
          have txy : (x == y) = false := by simpa using hxy
          clear hxy
          go_wp2_with (first
            | (go_at_call 26; (with_reducible refine (rIn_any P M vm z _).mono ?_); rintro e wx ⟨rfl, kx⟩; have hst := Kept.from hcur (by first | exact Kept.rfl' _ | exact kept_alloc _ _ | exact kept_drew _ | exact kept_drewN _ _ | exact (kept_drew _).drewN _) kx; clear hcur kx; have hcur := cur wx; have hkc := hkc.tr hst; have ff := ff.kept hst; have sps := sps.kept hst; have sqs := sqs.kept hst; have sam := sam.kept hst; (first | (have s4 := s4.kept hst) | skip); (first | (have s5 := s5.kept hst) | skip); (first | (have s6 := s6.kept hst) | skip); (first | (have s7 := s7.kept hst) | skip); (first | (have hwant := hwant.kept hst) | skip); (first | (have hkw' := hkw'.tr hst) | skip); (first | (have hreg := hreg.tr hst) | skip); clear hst; have d0 := ff.b.h0; have d1 := ff.b.h1; have d2 := ff.b.h2; rw [HX.out]))
          go_roundw
          case rel => exact ⟨j + 1, false, by omega, by go_num, rfl, hb', hkw'⟩
          case measure => simp [intOf]; omega
end Go.Proofs.Ytmnbcnbhnclkhaa
