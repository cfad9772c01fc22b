/- The walk of the law KeyequationErasures. No conditions. -/
import Derived.Test.YtmnbcnbhnclkhaaNgA
import Derived.Test.YtmnbcnbhnclkhaaZaA
import Derived.Test.YtmnbcnbhnclkhaaZaA
import Derived.Test.YtmnbcnbhnclkhaaKx
namespace Go.Proofs.Ytmnbcnbhnclkhaa
open Go.RowKit Cw

theorem loc_eq {G : GFd} {t : Tabs G} {l m ps : List Int} (h1 : t.pl l = Pl.lcf (eF t ps) ps.length) (h2 : t.pl m = Pl.lcf (fun i => t.e (ps.getD i 0)) ps.length) : t.pl l = t.pl m := h1.trans h2.symm
theorem syp_len {G : GFd} {t : Tabs G} {ps qs l : List Int} {r : Nat} (h : SyP t ps qs r (t.pl l)) (hc : Cano G l) : l.length ≤ r := by
  rw [← t.can_ln hc]
  exact Pl.ln_le.2 fun i hi => by rw [h i, if_neg (by omega)]
theorem app_lo {a b : List Int} {i : Nat} (h : i < a.length) : (a ++ b).getD i 0 = a.getD i 0 := by
  rw [List.getD, List.getD, List.getElem?_append_left h]
theorem app_hi {a b : List Int} {i n : Nat} (hn : a.length = n) : (a ++ b).getD (n + i) 0 = b.getD i 0 := by
  subst hn
  rw [List.getD, List.getD, List.getElem?_append_right (by omega), Nat.add_sub_cancel_left]
theorem lcf_all {G : GFd} (t : Tabs G) {al kn ps : List Int} (h : al = kn ++ ps) : Pl.lcf (eF t ps) ps.length * Pl.lcf (eF t kn) kn.length = Pl.lcf (eF t al) al.length := by
  have hlen : al.length = kn.length + ps.length := by rw [h, List.length_append]
  rw [hlen, Pl.lcf_split (eF t al) (eF t ps) kn.length ps.length (fun i _ => by unfold eF; rw [h, app_hi rfl]), Rg.mul_comm]
  congr 1
  exact (Pl.lcf_congr fun i hi => by unfold eF; rw [h, app_lo hi]).symm
theorem all_nz {G : GFd} {al kn ps qs : List Int} (h : al = kn ++ ps) (hk : ∀ i, i < kn.length → inn G.q (kn.getD i 0) ≠ 0) (hE : ErrP G ps qs) {i : Nat} (hi : i < al.length) : inn G.q (al.getD i 0) ≠ 0 := by
  rw [h] at hi ⊢
  rw [List.length_append] at hi
  rcases Nat.lt_or_ge i kn.length with g | g
  · rw [app_lo g]; exact hk i g
  · obtain ⟨j, rfl⟩ : ∃ j, i = kn.length + j := ⟨i - kn.length, by omega⟩
    rw [app_hi rfl]; exact (hE.1 j (by omega)).1
set_option maxRecDepth 100000 in
set_option maxHeartbeats 8000000 in
theorem keyequationErasures_law (P M : Int) (vm : Value) (mod : List Int) (vkn vlo vps vqs : Value) (kn lo ps qs : List Int) (r : Int) (w : World) (hvm : Sl w vm mod) (hkn : Sl w vkn kn) (hlo : Sl w vlo lo) (hps : Sl w vps ps) (hqs : Sl w vqs qs) :
    Calls Try.prog 7 #[.agg #[.int .i64 P, .int .i64 M, vm], .agg #[vkn, vlo, vps, vqs], .int .i64 r] w fun e w' => e = .returned (.bool true) ∧ Kept w w' := by
  have hkc := kept_alloc w (.cells #[.int .i64 P, .int .i64 M, vm] 24)
  have bb := boxF_new w P M vm 24
  have sm := hvm.kept hkc
  have hkb := kept_alloc (w.alloc (.cells #[.int .i64 P, .int .i64 M, vm] 24)) (.cells #[vkn, vlo, vps, vqs] 51)
  have bx00 : Bx ((w.alloc (.cells #[.int .i64 P, .int .i64 M, vm] 24)).alloc (.cells #[vkn, vlo, vps, vqs] 51)) (w.heap.size + 1) 0 (vkn) := ⟨by simp, by simp⟩
  have bx01 : Bx ((w.alloc (.cells #[.int .i64 P, .int .i64 M, vm] 24)).alloc (.cells #[vkn, vlo, vps, vqs] 51)) (w.heap.size + 1) 1 (vlo) := ⟨by simp, by simp⟩
  have bx02 : Bx ((w.alloc (.cells #[.int .i64 P, .int .i64 M, vm] 24)).alloc (.cells #[vkn, vlo, vps, vqs] 51)) (w.heap.size + 1) 2 (vps) := ⟨by simp, by simp⟩
  have bx03 : Bx ((w.alloc (.cells #[.int .i64 P, .int .i64 M, vm] 24)).alloc (.cells #[vkn, vlo, vps, vqs] 51)) (w.heap.size + 1) 3 (vqs) := ⟨by simp, by simp⟩
  have bb := bb.kept hkb
  have sm := sm.kept hkb
  have hkc := hkc.tr hkb
  clear hkb
  have skn := hkn.kept hkc
  obtain ⟨akn, capkn, rfl, qkn1, ⟨qkn2, _⟩, _⟩ := hkn
  unfold maxLen at qkn2
  have slo := hlo.kept hkc
  obtain ⟨alo, caplo, rfl, qlo1, ⟨qlo2, _⟩, _⟩ := hlo
  unfold maxLen at qlo2
  have sps := hps.kept hkc
  obtain ⟨aps, capps, rfl, qps1, ⟨qps2, _⟩, _⟩ := hps
  unfold maxLen at qps2
  have sqs := hqs.kept hkc
  obtain ⟨aqs, capqs, rfl, qqs1, ⟨qqs2, _⟩, _⟩ := hqs
  unfold maxLen at qqs2
  obtain ⟨W0, hW0⟩ : ∃ x, x = ((w.alloc (.cells #[.int .i64 P, .int .i64 M, vm] 24)).alloc (.cells #[.slice akn kn.length capkn, .slice alo lo.length caplo, .slice aps ps.length capps, .slice aqs qs.length capqs] 51)) := ⟨_, rfl⟩
  rw [← hW0] at hkc bb sm skn slo sps sqs bx00 bx01 bx02 bx03
  go_enter Try.func7, Try.ntmps7
  go_wp2_with (fail)
  rw [← hW0]
  clear hW0
  go_wp2_with (go_at_call 13; (with_reducible refine (alive5_any _).mono ?_); rintro e w1 ⟨rfl, ka⟩; have bb := bb.kept ka; have sm := sm.kept ka; have hkc := hkc.tr ka; have skn := skn.kept ka; have slo := slo.kept ka; have sps := sps.kept ka; have sqs := sqs.kept ka; have bx00 := bx00.kept ka; have bx01 := bx01.kept ka; have bx02 := bx02.kept ka; have bx03 := bx03.kept ka; have d0 := bb.h0; have d1 := bb.h1; have d2 := bb.h2; clear ka)
  by_cases hf : FieldP P M mod
  case neg =>
    have HF := hid hf
    clear hf
    go_wp2_with (go_at_call 14; (with_reducible refine (made5_no P M vm mod _ sm HF.out).mono ?_); rintro e w2 ⟨rfl, k2⟩; have skn := skn.kept k2; have slo := slo.kept k2; have sps := sps.kept k2; have sqs := sqs.kept k2; have bx00 := bx00.kept k2; have bx01 := bx01.kept k2; have bx02 := bx02.kept k2; have bx03 := bx03.kept k2; have cbx00 := bx00.h; have cbx01 := bx01.h; have cbx02 := bx02.h; have cbx03 := bx03.h)
    go_quiet (fail)
    go_wp2_with (fail)
    go_ret
    exact ⟨rfl, hkc.tr (k2.drewN _)⟩
  have HF := hid hf
  clear hf
  by_cases hs : Shrt [kn, lo, ps, qs]
  case neg =>
    have HS := hid hs
    clear hs
    go_wp2_with (first
      | (go_at_call 14; (with_reducible refine (made5_yes P M vm mod _ sm HF.out).mono ?_); rintro e w2 ⟨b, G, rfl, g2, t, gP, gM, gm, k2⟩; have HO : Hid (Of G P M mod) := hid ⟨gP, gM, gm⟩; clear gP gM gm; have hkc := hkc.tr k2; have ff : Fw w2 b G w.heap.size P M vm mod := ⟨g2, bb.kept k2, sm.kept k2⟩; have skn := skn.kept k2; have slo := slo.kept k2; have sps := sps.kept k2; have sqs := sqs.kept k2; have bx00 := bx00.kept k2; have bx01 := bx01.kept k2; have bx02 := bx02.kept k2; have bx03 := bx03.kept k2; have cbx00 := bx00.h; have cbx01 := bx01.h; have cbx02 := bx02.h; have cbx03 := bx03.h; have d0 := ff.b.h0; have d1 := ff.b.h1; have d2 := ff.b.h2; clear k2 g2 bb sm; have hcur := cur w2))
    go_quiet (fail)
    clear bx00 cbx00
    clear bx01 cbx01
    clear bx02 cbx02
    clear bx03 cbx03
    go_wp2_with (first
      | (go_at_call 15; (with_reducible refine (short_r _ [kn, lo, ps, qs] _ (sllb_four _ _ (drewN_sz _ _) _ _ _ _ _ _ _ _ _ _ _ _ _ (skn.kept (kept_drewN _ _)) (slo.kept (kept_drewN _ _)) (sps.kept (kept_drewN _ _)) (sqs.kept (kept_drewN _ _))) false (.inr ⟨rfl, HS.out⟩)).mono ?_); rintro e w3 ⟨rfl, k3⟩; have hst := Kept.tr (kept_drewN _ _) (Kept.tr (kept_alloc _ _) k3); have hkc := hkc.tr hst; have ff := ff.kept hst; have skn := skn.kept hst; have slo := slo.kept hst; have sps := sps.kept hst; have sqs := sqs.kept hst; clear hst k3 hcur; have hcur := cur w3; have d0 := ff.b.h0; have d1 := ff.b.h1; have d2 := ff.b.h2))
    go_ret
    exact ⟨rfl, hkc⟩
  have HS := hid hs
  have nkn : kn.length ≤ 20 := hs _ (by simp)
  have nlo : lo.length ≤ 20 := hs _ (by simp)
  have nps : ps.length ≤ 20 := hs _ (by simp)
  have nqs : qs.length ≤ 20 := hs _ (by simp)
  clear hs
  go_wp2_with (first
    | (go_at_call 14; (with_reducible refine (made5_yes P M vm mod _ sm HF.out).mono ?_); rintro e w2 ⟨b, G, rfl, g2, t, gP, gM, gm, k2⟩; have HO : Hid (Of G P M mod) := hid ⟨gP, gM, gm⟩; clear gP gM gm; have hkc := hkc.tr k2; have ff : Fw w2 b G w.heap.size P M vm mod := ⟨g2, bb.kept k2, sm.kept k2⟩; have skn := skn.kept k2; have slo := slo.kept k2; have sps := sps.kept k2; have sqs := sqs.kept k2; have bx00 := bx00.kept k2; have bx01 := bx01.kept k2; have bx02 := bx02.kept k2; have bx03 := bx03.kept k2; have cbx00 := bx00.h; have cbx01 := bx01.h; have cbx02 := bx02.h; have cbx03 := bx03.h; have d0 := ff.b.h0; have d1 := ff.b.h1; have d2 := ff.b.h2; clear k2 g2 bb sm; have hcur := cur w2))
  go_quiet (fail)
  clear bx00 cbx00
  clear bx01 cbx01
  clear bx02 cbx02
  clear bx03 cbx03
  by_cases hr : r < 1 ∨ 24 < r
  · have hcs : r < 1 ∨ (1 ≤ r ∧ 24 < r) := by omega
    clear hr
    rcases hcs with g1 | ⟨g1, g2⟩
    all_goals
      go_wp2_with (first
        | (go_at_call 15; (with_reducible refine (short_r _ [kn, lo, ps, qs] _ (sllb_four _ _ (drewN_sz _ _) _ _ _ _ _ _ _ _ _ _ _ _ _ (skn.kept (kept_drewN _ _)) (slo.kept (kept_drewN _ _)) (sps.kept (kept_drewN _ _)) (sqs.kept (kept_drewN _ _))) true (.inl ⟨rfl, HS.out⟩)).mono ?_); rintro e w3 ⟨rfl, k3⟩; have hst := Kept.tr (kept_drewN _ _) (Kept.tr (kept_alloc _ _) k3); have hkc := hkc.tr hst; have ff := ff.kept hst; have skn := skn.kept hst; have slo := slo.kept hst; have sps := sps.kept hst; have sqs := sqs.kept hst; clear hst k3 hcur; have hcur := cur w3; have d0 := ff.b.h0; have d1 := ff.b.h1; have d2 := ff.b.h2))
      go_ret
      exact ⟨ret_bool (by first | rfl | (simp; done) | (simp; omega)), hkc⟩
  obtain ⟨R, hR⟩ := Int.eq_ofNat_of_zero_le (show 0 ≤ r by omega)
  have R1 : 1 ≤ R := by omega
  have R2 : R ≤ 24 := by omega
  have r1 : (1 : Int) ≤ (R : Int) := by omega
  have r2 : (R : Int) ≤ 24 := by omega
  rw [hR]
  clear hR hr
  by_cases hl : kn.length = lo.length
  case neg =>
    have tl : ((kn.length : Int) != (lo.length : Int)) = true := by simp; omega
    clear hl
    go_wp2_with (first
      | (go_at_call 15; (with_reducible refine (short_r _ [kn, lo, ps, qs] _ (sllb_four _ _ (drewN_sz _ _) _ _ _ _ _ _ _ _ _ _ _ _ _ (skn.kept (kept_drewN _ _)) (slo.kept (kept_drewN _ _)) (sps.kept (kept_drewN _ _)) (sqs.kept (kept_drewN _ _))) true (.inl ⟨rfl, HS.out⟩)).mono ?_); rintro e w3 ⟨rfl, k3⟩; have hst := Kept.tr (kept_drewN _ _) (Kept.tr (kept_alloc _ _) k3); have hkc := hkc.tr hst; have ff := ff.kept hst; have skn := skn.kept hst; have slo := slo.kept hst; have sps := sps.kept hst; have sqs := sqs.kept hst; clear hst k3 hcur; have hcur := cur w3; have d0 := ff.b.h0; have d1 := ff.b.h1; have d2 := ff.b.h2))
    go_ret
    exact ⟨ret_bool (by first | rfl | (simp; done) | (simp; omega)), hkc⟩
  have tl : ((kn.length : Int) != (lo.length : Int)) = false := by simp; omega
  have HL := hid hl
  clear hl
  have w1' : IntKind.i64.wrap (2 * (ps.length : Int)) = 2 * (ps.length : Int) := IntWalk.i64_in _ (by omega)
  have w2' : IntKind.i64.wrap ((kn.length : Int) + 2 * (ps.length : Int)) = (kn.length : Int) + 2 * (ps.length : Int) := IntWalk.i64_in _ (by omega)
  by_cases h2 : R < kn.length + 2 * ps.length
  · have g2 : (R : Int) < (kn.length : Int) + 2 * (ps.length : Int) := by omega
    clear h2
    go_wp2_with (first
      | (go_at_call 15; (with_reducible refine (short_r _ [kn, lo, ps, qs] _ (sllb_four _ _ (drewN_sz _ _) _ _ _ _ _ _ _ _ _ _ _ _ _ (skn.kept (kept_drewN _ _)) (slo.kept (kept_drewN _ _)) (sps.kept (kept_drewN _ _)) (sqs.kept (kept_drewN _ _))) true (.inl ⟨rfl, HS.out⟩)).mono ?_); rintro e w3 ⟨rfl, k3⟩; have hst := Kept.tr (kept_drewN _ _) (Kept.tr (kept_alloc _ _) k3); have hkc := hkc.tr hst; have ff := ff.kept hst; have skn := skn.kept hst; have slo := slo.kept hst; have sps := sps.kept hst; have sqs := sqs.kept hst; clear hst k3 hcur; have hcur := cur w3; have d0 := ff.b.h0; have d1 := ff.b.h1; have d2 := ff.b.h2))
    go_ret
    exact ⟨ret_bool (by first | rfl | (simp; done) | (simp; omega)), hkc⟩
  have g2 : (kn.length : Int) + 2 * (ps.length : Int) ≤ (R : Int) := by omega
  have h2' : kn.length + 2 * ps.length ≤ R := by omega
  clear h2
  by_cases hE : ErrP G ps qs
  case neg =>
    have HE := hid (bif_no hE)
    clear hE
    go_wp2_with (first
      | (go_at_call 15; (with_reducible refine (short_r _ [kn, lo, ps, qs] _ (sllb_four _ _ (drewN_sz _ _) _ _ _ _ _ _ _ _ _ _ _ _ _ (skn.kept (kept_drewN _ _)) (slo.kept (kept_drewN _ _)) (sps.kept (kept_drewN _ _)) (sqs.kept (kept_drewN _ _))) true (.inl ⟨rfl, HS.out⟩)).mono ?_); rintro e w3 ⟨rfl, k3⟩; have hst := Kept.tr (kept_drewN _ _) (Kept.tr (kept_alloc _ _) k3); have hkc := hkc.tr hst; have ff := ff.kept hst; have skn := skn.kept hst; have slo := slo.kept hst; have sps := sps.kept hst; have sqs := sqs.kept hst; clear hst k3 hcur; have hcur := cur w3; have d0 := ff.b.h0; have d1 := ff.b.h1; have d2 := ff.b.h2)
      | (go_at_call 24; (with_reducible refine (rkErr_r G t P M mod vm _ _ ps qs false _ HO (sps.kept (by first | exact Kept.rfl' _ | exact kept_alloc _ _ | exact kept_drew _ | exact kept_drewN _ _ | exact (kept_drew _).drewN _)) (sqs.kept (by first | exact Kept.rfl' _ | exact kept_alloc _ _ | exact kept_drew _ | exact kept_drewN _ _ | exact (kept_drew _).drewN _)) (by omega) HE.out).mono ?_); rintro e wx ⟨rfl, kx⟩; have hst := Kept.from hcur (by first | exact Kept.rfl' _ | exact kept_alloc _ _ | exact kept_drew _ | exact kept_drewN _ _ | exact (kept_drew _).drewN _) kx; clear hcur kx; have hcur := cur wx; have hkc := hkc.tr hst; have ff := ff.kept hst; have skn := skn.kept hst; have slo := slo.kept hst; have sps := sps.kept hst; have sqs := sqs.kept hst; (first | (have s30 := s30.kept hst) | skip); (first | (have s31 := s31.kept hst) | skip); clear hst; have d0 := ff.b.h0; have d1 := ff.b.h1; have d2 := ff.b.h2))
    go_ret
    exact ⟨ret_bool (by first | rfl | (simp; done) | (simp; omega)), hkc⟩
  have HE := hid (bif_yes hE)
  have HEE := hid hE
  have HLQ := hid hE.2.1
  have nqs' : qs.length ≤ 20 := by have := hE.2.1; omega
  clear hE
  go_wp2_with (first
    | (go_at_call 15; (with_reducible refine (short_r _ [kn, lo, ps, qs] _ (sllb_four _ _ (drewN_sz _ _) _ _ _ _ _ _ _ _ _ _ _ _ _ (skn.kept (kept_drewN _ _)) (slo.kept (kept_drewN _ _)) (sps.kept (kept_drewN _ _)) (sqs.kept (kept_drewN _ _))) true (.inl ⟨rfl, HS.out⟩)).mono ?_); rintro e w3 ⟨rfl, k3⟩; have hst := Kept.tr (kept_drewN _ _) (Kept.tr (kept_alloc _ _) k3); have hkc := hkc.tr hst; have ff := ff.kept hst; have skn := skn.kept hst; have slo := slo.kept hst; have sps := sps.kept hst; have sqs := sqs.kept hst; clear hst k3 hcur; have hcur := cur w3; have d0 := ff.b.h0; have d1 := ff.b.h1; have d2 := ff.b.h2)
    | (go_at_call 24; (with_reducible refine (rkErr_r G t P M mod vm _ _ ps qs true _ HO (sps.kept (by first | exact Kept.rfl' _ | exact kept_alloc _ _ | exact kept_drew _ | exact kept_drewN _ _ | exact (kept_drew _).drewN _)) (sqs.kept (by first | exact Kept.rfl' _ | exact kept_alloc _ _ | exact kept_drew _ | exact kept_drewN _ _ | exact (kept_drew _).drewN _)) (by omega) HE.out).mono ?_); rintro e wx ⟨rfl, kx⟩; have hst := Kept.from hcur (by first | exact Kept.rfl' _ | exact kept_alloc _ _ | exact kept_drew _ | exact kept_drewN _ _ | exact (kept_drew _).drewN _) kx; clear hcur kx; have hcur := cur wx; have hkc := hkc.tr hst; have ff := ff.kept hst; have skn := skn.kept hst; have slo := slo.kept hst; have sps := sps.kept hst; have sqs := sqs.kept hst; (first | (have s30 := s30.kept hst) | skip); (first | (have s31 := s31.kept hst) | skip); clear hst; have d0 := ff.b.h0; have d1 := ff.b.h1; have d2 := ff.b.h2)
    | (at_builtin; (refine wpList_append_ints rfl (.tmp 81) (.tmp 82) rfl wx.heap.size _ [] rfl (own_zero (w := wx) (Nat.le_refl _)) akn kn.length capkn kn rfl rfl (skn.kept (kept_alloc wx (.cells #[] 3))).nn.1 (skn.kept (kept_alloc wx (.cells #[] 3))).nn.2 (skn.kept (kept_alloc wx (.cells #[] 3))).addr (by simp; omega) (by simp) ?_); intro v20 w20 o20 gr _; have k20 : Kept wx w20 := below_append (kept_alloc wx (.cells #[] 3)) (by simp) (own_zero (w := wx) (Nat.le_refl _)) (Nat.le_refl _) gr; clear gr)
    | (at_builtin; (refine wpList_append_ints rfl (.tmp 83) (.tmp 84) rfl wx.heap.size _ ([] ++ kn) rfl o20 aps ps.length capps ps rfl rfl (sps.kept k20).nn.1 (sps.kept k20).nn.2 (sps.kept k20).addr (by simp; omega) k20.size ?_); intro v21 w21 o21 gr _; have kst : Kept wx w21 := below_append k20 k20.size o20 (Nat.le_refl _) gr; have s30 : Sl w21 v21 (kn ++ ps) := (by have := o21.sl; rwa [List.nil_append] at this); clear gr k20 o20 o21; have hst := kst; clear hcur; have hcur := cur w21; have hkc := hkc.tr hst; have ff := ff.kept hst; have skn := skn.kept hst; have slo := slo.kept hst; have sps := sps.kept hst; have sqs := sqs.kept hst; clear hst kst; have d0 := ff.b.h0; have d1 := ff.b.h1; have d2 := ff.b.h2)
    | (at_builtin; (refine wpList_append_ints rfl (.tmp 86) (.tmp 87) rfl w21.heap.size _ [] rfl (own_zero (w := w21) (Nat.le_refl _)) alo lo.length caplo lo rfl rfl (slo.kept (kept_alloc w21 (.cells #[] 3))).nn.1 (slo.kept (kept_alloc w21 (.cells #[] 3))).nn.2 (slo.kept (kept_alloc w21 (.cells #[] 3))).addr (by simp; omega) (by simp) ?_); intro v22 w22 o22 gr _; have k22 : Kept w21 w22 := below_append (kept_alloc w21 (.cells #[] 3)) (by simp) (own_zero (w := w21) (Nat.le_refl _)) (Nat.le_refl _) gr; clear gr)
    | (at_builtin; (refine wpList_append_ints rfl (.tmp 88) (.tmp 89) rfl w21.heap.size _ ([] ++ lo) rfl o22 aqs qs.length capqs qs rfl rfl (sqs.kept k22).nn.1 (sqs.kept k22).nn.2 (sqs.kept k22).addr (by simp; omega) k22.size ?_); intro v23 w23 o23 gr _; have kst : Kept w21 w23 := below_append k22 k22.size o22 (Nat.le_refl _) gr; have s31 : Sl w23 v23 (lo ++ qs) := (by have := o23.sl; rwa [List.nil_append] at this); clear gr k22 o22 o23; have hst := kst; clear hcur; have hcur := cur w23; have hkc := hkc.tr hst; have ff := ff.kept hst; have skn := skn.kept hst; have slo := slo.kept hst; have sps := sps.kept hst; have sqs := sqs.kept hst; (first | (have s30 := s30.kept hst) | skip); clear hst kst; have d0 := ff.b.h0; have d1 := ff.b.h1; have d2 := ff.b.h2))
  obtain ⟨al, hal⟩ : ∃ al, al = kn ++ ps := ⟨_, rfl⟩
  obtain ⟨bm, hbm⟩ : ∃ bm, bm = lo ++ qs := ⟨_, rfl⟩
  rw [← hal] at s30
  rw [← hbm] at s31
  have HAL := hid hal
  have HBM := hid hbm
  have nal : al.length ≤ 40 := by rw [hal, List.length_append]; omega
  have HLL : Hid (al.length = bm.length) := hid (by rw [hal, hbm, List.length_append, List.length_append, HL.out, HLQ.out])
  have HQ : Hid (ordS P M = G.q) := hid (by rw [← HO.out.1, ← HO.out.2.1, ← t.hq])
  have z30 := s30
  obtain ⟨aal, capal, rfl, ta30, ⟨tb30, _⟩, _⟩ := z30
  unfold maxLen at tb30
  clear hal hbm
  by_cases hd : DifP G al
  case neg =>
    have HD := hid (bif_no hd)
    clear hd
    go_wp2_with (first
      | (go_at_call 29; (with_reducible refine (rkDif_r G t P M mod vm _ al false _ HO (s30.kept (by first | exact Kept.rfl' _ | exact kept_alloc _ _ | exact kept_drew _ | exact kept_drewN _ _ | exact (kept_drew _).drewN _)) (by omega) HD.out).mono ?_); rintro e wx ⟨rfl, kx⟩; have hst := Kept.from hcur (by first | exact Kept.rfl' _ | exact kept_alloc _ _ | exact kept_drew _ | exact kept_drewN _ _ | exact (kept_drew _).drewN _) kx; clear hcur kx; have hcur := cur wx; have hkc := hkc.tr hst; have ff := ff.kept hst; have skn := skn.kept hst; have slo := slo.kept hst; have sps := sps.kept hst; have sqs := sqs.kept hst; (first | (have s30 := s30.kept hst) | skip); (first | (have s31 := s31.kept hst) | skip); clear hst; have d0 := ff.b.h0; have d1 := ff.b.h1; have d2 := ff.b.h2))
    go_ret
    exact ⟨ret_bool (by first | rfl | (simp; done) | (simp; omega)), hkc⟩
  have HD := hid (bif_yes hd)
  have HDD := hid hd
  clear hd
  go_wp2_with (first
    | (go_at_call 29; (with_reducible refine (rkDif_r G t P M mod vm _ al true _ HO (s30.kept (by first | exact Kept.rfl' _ | exact kept_alloc _ _ | exact kept_drew _ | exact kept_drewN _ _ | exact (kept_drew _).drewN _)) (by omega) HD.out).mono ?_); rintro e wx ⟨rfl, kx⟩; have hst := Kept.from hcur (by first | exact Kept.rfl' _ | exact kept_alloc _ _ | exact kept_drew _ | exact kept_drewN _ _ | exact (kept_drew _).drewN _) kx; clear hcur kx; have hcur := cur wx; have hkc := hkc.tr hst; have ff := ff.kept hst; have skn := skn.kept hst; have slo := slo.kept hst; have sps := sps.kept hst; have sqs := sqs.kept hst; (first | (have s30 := s30.kept hst) | skip); (first | (have s31 := s31.kept hst) | skip); clear hst; have d0 := ff.b.h0; have d1 := ff.b.h1; have d2 := ff.b.h2))
  obtain ⟨wL, hwL⟩ : ∃ x, x = wx := ⟨_, rfl⟩
  subst hwL
  go_loopw [97] (fun vi wr => ∃ i : Nat, i ≤ kn.length ∧ vi = .int .i64 i ∧ Kept wL wr ∧ Hid (∀ j, j < i → inn G.q (kn.getD j 0) ≠ 0)) (fun vi _ => kn.length - (intOf vi).toNat)
  case atStart => exact ⟨0, by omega, rfl, Kept.rfl' _, hid (fun j h => by omega)⟩
  case round =>
    obtain ⟨i, hi, rfl, hkw, hI⟩ := hrel
    have ff := ff.kept hkw
    have skn := skn.kept hkw
    have slo := slo.kept hkw
    have sps := sps.kept hkw
    have sqs := sqs.kept hkw
    have s30 := s30.kept hkw
    have s31 := s31.kept hkw
    have hkc := hkc.tr hkw
    have d0 := ff.b.h0
    have d1 := ff.b.h1
    have d2 := ff.b.h2
    clear hcur
    have hcur := cur wr
    have hkw' := hkw
    by_cases hlt : i < kn.length
    · have zr := skn
      obtain ⟨_, _, e1, _, _, hc⟩ := zr
      cases e1
      obtain ⟨bp1, off1, e2, hbp1, hcell⟩ := hc (by intro e; rw [e] at hlt; simp at hlt)
      cases e2
      have hck1 := hcell i hlt
      obtain ⟨z, hz1⟩ : ∃ z, z = kn.getD i 0 := ⟨_, rfl⟩
      rw [← hz1] at hck1
      have HZ1 := hid hz1
      clear hz1 hcell hc
      have hki : (i : Int) < (kn.length : Int) := by omega
      have k0 : (0 : Int) ≤ (i : Int) := by omega
      obtain ⟨x, hx⟩ : ∃ x, x = inn G.q z := ⟨_, rfl⟩
      have HX : Hid (inn (ordS P M) z = x) := hid (by rw [HQ.out, hx])
      have HXX := hid hx
      clear hx
      by_cases hx0 : x = 0
      · subst hx0
        go_wp2_with (first
          | (go_at_call 26; (with_reducible refine (rIn_any P M vm z _).mono ?_); rintro e wx ⟨rfl, kx⟩; have hst := Kept.from hcur (by first | exact Kept.rfl' _ | exact kept_alloc _ _ | exact kept_drew _ | exact kept_drewN _ _ | exact (kept_drew _).drewN _) kx; clear hcur kx; have hcur := cur wx; have hkc := hkc.tr hst; have ff := ff.kept hst; have skn := skn.kept hst; have slo := slo.kept hst; have sps := sps.kept hst; have sqs := sqs.kept hst; (first | (have s30 := s30.kept hst) | skip); (first | (have s31 := s31.kept hst) | skip); (first | (have hkw' := hkw'.tr hst) | skip); clear hst; have d0 := ff.b.h0; have d1 := ff.b.h1; have d2 := ff.b.h2; rw [HX.out]))
        go_ret
        exact ⟨ret_bool (by first | rfl | (simp; done) | (simp; omega)), hkc⟩
      have tx : (x == 0) = false := by simpa using hx0
      have HI' : Hid (∀ j, j < i + 1 → inn G.q (kn.getD j 0) ≠ 0) := hid (fun j h => by
        by_cases e : j = i
        · rw [e, ← HZ1.out, ← HXX.out]; exact hx0
        · exact hI.out j (by omega))
      clear hx0
      go_wp2_with (first
        | (go_at_call 26; (with_reducible refine (rIn_any P M vm z _).mono ?_); rintro e wx ⟨rfl, kx⟩; have hst := Kept.from hcur (by first | exact Kept.rfl' _ | exact kept_alloc _ _ | exact kept_drew _ | exact kept_drewN _ _ | exact (kept_drew _).drewN _) kx; clear hcur kx; have hcur := cur wx; have hkc := hkc.tr hst; have ff := ff.kept hst; have skn := skn.kept hst; have slo := slo.kept hst; have sps := sps.kept hst; have sqs := sqs.kept hst; (first | (have s30 := s30.kept hst) | skip); (first | (have s31 := s31.kept hst) | skip); (first | (have hkw' := hkw'.tr hst) | skip); clear hst; have d0 := ff.b.h0; have d1 := ff.b.h1; have d2 := ff.b.h2; rw [HX.out]))
      go_roundw
      case rel => exact ⟨i + 1, by omega, by go_num, hkw', HI'⟩
      case measure => simp [intOf]; omega
    · have HI : Hid (∀ j, j < kn.length → inn G.q (kn.getD j 0) ≠ 0) := hid (fun j h => hI.out j (by omega))
      have hge : (kn.length : Int) ≤ (i : Int) := by omega
      clear hlt hkw'
      go_wp2_with (first
        | (go_at_call 25; (with_reducible refine (rkLocator_p G t P M mod vm _ kn _ HO (ff.m.kept (by first | exact Kept.rfl' _ | exact kept_alloc _ _ | exact kept_drew _ | exact kept_drewN _ _ | exact (kept_drew _).drewN _)) (skn.kept (by first | exact Kept.rfl' _ | exact kept_alloc _ _ | exact kept_drew _ | exact kept_drewN _ _ | exact (kept_drew _).drewN _)) (by omega)).mono ?_); rintro e wx ⟨v7, l7, rfl, o7, kx, c7, p7⟩; have hst := Kept.from hcur (by first | exact Kept.rfl' _ | exact kept_alloc _ _ | exact kept_drew _ | exact kept_drewN _ _ | exact (kept_drew _).drewN _) kx; clear hcur kx; have hcur := cur wx; have hkc := hkc.tr hst; have ff := ff.kept hst; have skn := skn.kept hst; have slo := slo.kept hst; have sps := sps.kept hst; have sqs := sqs.kept hst; (first | (have s30 := s30.kept hst) | skip); (first | (have s31 := s31.kept hst) | skip); (first | (have s7 := s7.kept hst) | skip); (first | (have s8 := s8.kept hst) | skip); (first | (have s9 := s9.kept hst) | skip); (first | (have s10 := s10.kept hst) | skip); (first | (have s11 := s11.kept hst) | skip); (first | (have s12 := s12.kept hst) | skip); (first | (have s13 := s13.kept hst) | skip); clear hst; have d0 := ff.b.h0; have d1 := ff.b.h1; have d2 := ff.b.h2; have s7 := o7.sl; have P7 := hid p7; clear p7 o7; have n7 : l7.length ≤ 40 := (by have := t.can_ln' c7 P7.out; have := Pl.lcf_ln (fun i => t.e (kn.getD i 0)) kn.length; omega)))
      go_region_held3 (fun w' => w'.cell? ⟨w.heap.size, 0, none⟩ = some (.int .i64 P) ∧ w'.cell? ⟨w.heap.size, 1, none⟩ = some (.int .i64 M) ∧ w'.cell? ⟨w.heap.size, 2, none⟩ = some vm) (first | (simp [go_sem]; done) | (simp [*]; done))
        (first
          | (go_at_call 18; (with_reducible refine (rkSyn_p G t P M mod vm _ _ al bm R _ HO (ff.m.kept (by first | exact Kept.rfl' _ | exact kept_alloc _ _ | exact kept_drew _ | exact kept_drewN _ _ | exact (kept_drew _).drewN _)) (s30.kept (by first | exact Kept.rfl' _ | exact kept_alloc _ _ | exact kept_drew _ | exact kept_drewN _ _ | exact (kept_drew _).drewN _)) (s31.kept (by first | exact Kept.rfl' _ | exact kept_alloc _ _ | exact kept_drew _ | exact kept_drewN _ _ | exact (kept_drew _).drewN _)) (by omega) HLL.out (by omega)).mono ?_); rintro e wx ⟨v8, l8, rfl, o8, kx, c8, y8⟩; have hst := Kept.from hcur (by first | exact Kept.rfl' _ | exact kept_alloc _ _ | exact kept_drew _ | exact kept_drewN _ _ | exact (kept_drew _).drewN _) kx; clear hcur kx; have hcur := cur wx; have hkc := hkc.tr hst; have ff := ff.kept hst; have skn := skn.kept hst; have slo := slo.kept hst; have sps := sps.kept hst; have sqs := sqs.kept hst; (first | (have s30 := s30.kept hst) | skip); (first | (have s31 := s31.kept hst) | skip); (first | (have s7 := s7.kept hst) | skip); (first | (have s8 := s8.kept hst) | skip); (first | (have s9 := s9.kept hst) | skip); (first | (have s10 := s10.kept hst) | skip); (first | (have s11 := s11.kept hst) | skip); (first | (have s12 := s12.kept hst) | skip); (first | (have s13 := s13.kept hst) | skip); clear hst; have d0 := ff.b.h0; have d1 := ff.b.h1; have d2 := ff.b.h2; have s8 := o8.sl; have n8 : l8.length ≤ 40 := (by have := syp_len y8 c8; omega); have Y8 := hid y8; clear y8 o8)
          | (go_at_call 23; (with_reducible refine (rMul_p G t P M mod vm _ _ l8 l7 _ HO (ff.m.kept (by first | exact Kept.rfl' _ | exact kept_alloc _ _ | exact kept_drew _ | exact kept_drewN _ _ | exact (kept_drew _).drewN _)) (s8.kept (by first | exact Kept.rfl' _ | exact kept_alloc _ _ | exact kept_drew _ | exact kept_drewN _ _ | exact (kept_drew _).drewN _)) (s7.kept (by first | exact Kept.rfl' _ | exact kept_alloc _ _ | exact kept_drew _ | exact kept_drewN _ _ | exact (kept_drew _).drewN _)) (by omega) (by omega)).mono ?_); rintro e wx ⟨v9, l9, rfl, o9, kx, c9, p9⟩; have hst := Kept.from hcur (by first | exact Kept.rfl' _ | exact kept_alloc _ _ | exact kept_drew _ | exact kept_drewN _ _ | exact (kept_drew _).drewN _) kx; clear hcur kx; have hcur := cur wx; have hkc := hkc.tr hst; have ff := ff.kept hst; have skn := skn.kept hst; have slo := slo.kept hst; have sps := sps.kept hst; have sqs := sqs.kept hst; (first | (have s30 := s30.kept hst) | skip); (first | (have s31 := s31.kept hst) | skip); (first | (have s7 := s7.kept hst) | skip); (first | (have s8 := s8.kept hst) | skip); (first | (have s9 := s9.kept hst) | skip); (first | (have s10 := s10.kept hst) | skip); (first | (have s11 := s11.kept hst) | skip); (first | (have s12 := s12.kept hst) | skip); (first | (have s13 := s13.kept hst) | skip); clear hst; have d0 := ff.b.h0; have d1 := ff.b.h1; have d2 := ff.b.h2; have s9 := o9.sl; have P9 := hid p9; clear p9 o9; have n9 : l9.length ≤ 1000 := (by have := t.can_ln' c9 P9.out; have := Pl.ln_mul_le (t.pl l8) (t.pl l7); have := t.pl_ln_le l8; have := t.pl_ln_le l7; omega)))
      all_goals
        have HER := era_list Y8.out HAL.out HDD.out (fun i hi => by rw [HBM.out, app_hi HL.out.symm]; exact (HEE.out.1 i hi).2) h2'
        rw [← show t.pl l7 = Pl.lcf (eF t kn) kn.length from P7.out, ← P9.out] at HER
        have HPC := hid HER
        clear HER
        go_wp2_with (first
          | (go_at_call 19; (with_reducible refine (kSolve_pair b G t _ l9 R kn.length _ (ff.g.kept (by first | exact Kept.rfl' _ | exact kept_alloc _ _ | exact kept_drew _ | exact kept_drewN _ _ | exact (kept_drew _).drewN _)) (s9.kept (by first | exact Kept.rfl' _ | exact kept_alloc _ _ | exact kept_drew _ | exact kept_drewN _ _ | exact (kept_drew _).drewN _)) n9 R1 (by omega) (by omega) HPC.out.1).mono ?_); rintro e wx ⟨v10, v11, l10, l11, rfl, o10, o11, kx, c10, c11, hsp⟩; have hst := Kept.from hcur (by first | exact Kept.rfl' _ | exact kept_alloc _ _ | exact kept_drew _ | exact kept_drewN _ _ | exact (kept_drew _).drewN _) kx; clear hcur kx; have hcur := cur wx; have hkc := hkc.tr hst; have ff := ff.kept hst; have skn := skn.kept hst; have slo := slo.kept hst; have sps := sps.kept hst; have sqs := sqs.kept hst; (first | (have s30 := s30.kept hst) | skip); (first | (have s31 := s31.kept hst) | skip); (first | (have s7 := s7.kept hst) | skip); (first | (have s8 := s8.kept hst) | skip); (first | (have s9 := s9.kept hst) | skip); (first | (have s10 := s10.kept hst) | skip); (first | (have s11 := s11.kept hst) | skip); (first | (have s12 := s12.kept hst) | skip); (first | (have s13 := s13.kept hst) | skip); clear hst; have d0 := ff.b.h0; have d1 := ff.b.h1; have d2 := ff.b.h2; have s10 := o10.sl; have s11 := o11.sl; obtain ⟨n10, n11⟩ := solv_len hsp c10 c11 R2 (by omega); have E10 := hid (hsp.eq HPC.out.1 HPC.out.2); clear hsp o10 o11)
          | (go_at_call 25; (with_reducible refine (rkLocator_p G t P M mod vm _ ps _ HO (ff.m.kept (by first | exact Kept.rfl' _ | exact kept_alloc _ _ | exact kept_drew _ | exact kept_drewN _ _ | exact (kept_drew _).drewN _)) (sps.kept (by first | exact Kept.rfl' _ | exact kept_alloc _ _ | exact kept_drew _ | exact kept_drewN _ _ | exact (kept_drew _).drewN _)) (by omega)).mono ?_); rintro e wx ⟨v12, l12, rfl, o12, kx, c12, p12⟩; have hst := Kept.from hcur (by first | exact Kept.rfl' _ | exact kept_alloc _ _ | exact kept_drew _ | exact kept_drewN _ _ | exact (kept_drew _).drewN _) kx; clear hcur kx; have hcur := cur wx; have hkc := hkc.tr hst; have ff := ff.kept hst; have skn := skn.kept hst; have slo := slo.kept hst; have sps := sps.kept hst; have sqs := sqs.kept hst; (first | (have s30 := s30.kept hst) | skip); (first | (have s31 := s31.kept hst) | skip); (first | (have s7 := s7.kept hst) | skip); (first | (have s8 := s8.kept hst) | skip); (first | (have s9 := s9.kept hst) | skip); (first | (have s10 := s10.kept hst) | skip); (first | (have s11 := s11.kept hst) | skip); (first | (have s12 := s12.kept hst) | skip); (first | (have s13 := s13.kept hst) | skip); clear hst; have d0 := ff.b.h0; have d1 := ff.b.h1; have d2 := ff.b.h2; have s12 := o12.sl; have P12 := hid p12; clear p12 o12)
          | (go_at_call 17; (with_reducible refine (same_eq _ _ l10 l12 _ (s10.kept (by first | exact Kept.rfl' _ | exact kept_alloc _ _ | exact kept_drew _ | exact kept_drewN _ _ | exact (kept_drew _).drewN _)) (s12.kept (by first | exact Kept.rfl' _ | exact kept_alloc _ _ | exact kept_drew _ | exact kept_drewN _ _ | exact (kept_drew _).drewN _)) (t.pl_inj c10 c12 (loc_eq E10.out.1 P12.out))).mono ?_); rintro e wx ⟨rfl, kx⟩; have hst := Kept.from hcur (by first | exact Kept.rfl' _ | exact kept_alloc _ _ | exact kept_drew _ | exact kept_drewN _ _ | exact (kept_drew _).drewN _) kx; clear hcur kx; have hcur := cur wx; have hkc := hkc.tr hst; have ff := ff.kept hst; have skn := skn.kept hst; have slo := slo.kept hst; have sps := sps.kept hst; have sqs := sqs.kept hst; (first | (have s30 := s30.kept hst) | skip); (first | (have s31 := s31.kept hst) | skip); (first | (have s7 := s7.kept hst) | skip); (first | (have s8 := s8.kept hst) | skip); (first | (have s9 := s9.kept hst) | skip); (first | (have s10 := s10.kept hst) | skip); (first | (have s11 := s11.kept hst) | skip); (first | (have s12 := s12.kept hst) | skip); (first | (have s13 := s13.kept hst) | skip); clear hst; have d0 := ff.b.h0; have d1 := ff.b.h1; have d2 := ff.b.h2)
          | (go_at_call 23; (with_reducible refine (rMul_p G t P M mod vm _ _ l10 l7 _ HO (ff.m.kept (by first | exact Kept.rfl' _ | exact kept_alloc _ _ | exact kept_drew _ | exact kept_drewN _ _ | exact (kept_drew _).drewN _)) (s10.kept (by first | exact Kept.rfl' _ | exact kept_alloc _ _ | exact kept_drew _ | exact kept_drewN _ _ | exact (kept_drew _).drewN _)) (s7.kept (by first | exact Kept.rfl' _ | exact kept_alloc _ _ | exact kept_drew _ | exact kept_drewN _ _ | exact (kept_drew _).drewN _)) (by omega) (by omega)).mono ?_); rintro e wx ⟨v13, l13, rfl, o13, kx, c13, p13⟩; have hst := Kept.from hcur (by first | exact Kept.rfl' _ | exact kept_alloc _ _ | exact kept_drew _ | exact kept_drewN _ _ | exact (kept_drew _).drewN _) kx; clear hcur kx; have hcur := cur wx; have hkc := hkc.tr hst; have ff := ff.kept hst; have skn := skn.kept hst; have slo := slo.kept hst; have sps := sps.kept hst; have sqs := sqs.kept hst; (first | (have s30 := s30.kept hst) | skip); (first | (have s31 := s31.kept hst) | skip); (first | (have s7 := s7.kept hst) | skip); (first | (have s8 := s8.kept hst) | skip); (first | (have s9 := s9.kept hst) | skip); (first | (have s10 := s10.kept hst) | skip); (first | (have s11 := s11.kept hst) | skip); (first | (have s12 := s12.kept hst) | skip); (first | (have s13 := s13.kept hst) | skip); clear hst; have d0 := ff.b.h0; have d1 := ff.b.h1; have d2 := ff.b.h2; have s13 := o13.sl; have P13 := hid p13; clear p13 o13; have n13 : l13.length ≤ 1000 := (by have := t.can_ln' c13 P13.out; have := Pl.ln_mul_le (t.pl l10) (t.pl l7); have := t.pl_ln_le l10; have := t.pl_ln_le l7; omega)))
        have E13 : Hid (t.pl l13 = Pl.lcf (eF t al) al.length) := hid (by rw [P13.out, E10.out.1, show t.pl l7 = Pl.lcf (eF t kn) kn.length from P7.out, lcf_all t HAL.out])
        obtain ⟨wM, hwM⟩ : ∃ x, x = wx := ⟨_, rfl⟩
        subst hwM
        clear s7 s8 s9 s10 s12
        go_loopw [143] (fun vi wr => ∃ i : Nat, i ≤ al.length ∧ vi = .int .i64 i ∧ Kept wM wr) (fun vi _ => al.length - (intOf vi).toNat)
        case atStart => exact ⟨0, by omega, rfl, Kept.rfl' _⟩
        case round =>
          obtain ⟨i, hi, rfl, hkw⟩ := hrel
          have ff := ff.kept hkw
          have skn := skn.kept hkw
          have slo := slo.kept hkw
          have sps := sps.kept hkw
          have sqs := sqs.kept hkw
          have s30 := s30.kept hkw
          have s31 := s31.kept hkw
          have s11 := s11.kept hkw
          have s13 := s13.kept hkw
          have hkc := hkc.tr hkw
          have d0 := ff.b.h0
          have d1 := ff.b.h1
          have d2 := ff.b.h2
          clear hcur
          have hcur := cur wr
          have hkw' := hkw
          by_cases hlt : i < al.length
          case neg =>
            have hge : (al.length : Int) ≤ (i : Int) := by omega
            clear hlt
            go_wp2_with (fail)
            go_ret
            exact ⟨rfl, hkc⟩
          have hlt2 : i < bm.length := by have := HLL.out; omega
          have zr := s30
          obtain ⟨_, _, e1, _, _, hc⟩ := zr
          cases e1
          obtain ⟨bp1, off1, e2, hbp1, hcell⟩ := hc (by intro e; rw [e] at hlt; simp at hlt)
          cases e2
          have hck1 := hcell i hlt
          obtain ⟨z, hz1⟩ : ∃ z, z = al.getD i 0 := ⟨_, rfl⟩
          rw [← hz1] at hck1
          have HZ1 := hid hz1
          clear hz1 hcell hc
          have zr := s31
          obtain ⟨_, _, e1, _, _, hc⟩ := zr
          cases e1
          obtain ⟨bp2, off2, e2, hbp2, hcell⟩ := hc (by intro e; rw [e] at hlt2; simp at hlt2)
          cases e2
          have hck2 := hcell i hlt2
          obtain ⟨y, hz2⟩ : ∃ z, z = bm.getD i 0 := ⟨_, rfl⟩
          rw [← hz2] at hck2
          have HZ2 := hid hz2
          clear hz2 hcell hc
          have HFR := hid (frn_list E13.out E10.out.2 HDD.out hlt (all_nz HAL.out HI.out HEE.out hlt))
          rw [← HZ1.out, ← HZ2.out] at HFR
          obtain ⟨u, hu⟩ : ∃ u, u = inn G.q y := ⟨_, rfl⟩
          have HU : Hid (inn (ordS P M) y = u) := hid (by rw [HQ.out, hu])
          rw [← hu] at HFR
          have hki : (i : Int) < (al.length : Int) := by omega
          have hki2 : (i : Int) < (bm.length : Int) := by omega
          have k0 : (0 : Int) ≤ (i : Int) := by omega
          have hreg := Kept.rfl' wr
          clear hu
          go_wp2_with (first
            | (go_at_call 27; (with_reducible refine (kForney_p b G t _ _ l13 l11 z _ (ff.g.kept (by first | exact Kept.rfl' _ | exact kept_alloc _ _ | exact kept_drew _ | exact kept_drewN _ _ | exact (kept_drew _).drewN _)) (s13.kept (by first | exact Kept.rfl' _ | exact kept_alloc _ _ | exact kept_drew _ | exact kept_drewN _ _ | exact (kept_drew _).drewN _)) (s11.kept (by first | exact Kept.rfl' _ | exact kept_alloc _ _ | exact kept_drew _ | exact kept_drewN _ _ | exact (kept_drew _).drewN _)) (by omega)).mono ?_); rintro e wx ⟨x8, k8, rfl, f8, kx⟩; have hst := Kept.from hcur (by first | exact Kept.rfl' _ | exact kept_alloc _ _ | exact kept_drew _ | exact kept_drewN _ _ | exact (kept_drew _).drewN _) kx; clear hcur kx; have hcur := cur wx; have hkc := hkc.tr hst; have ff := ff.kept hst; have skn := skn.kept hst; have slo := slo.kept hst; have sps := sps.kept hst; have sqs := sqs.kept hst; (first | (have s30 := s30.kept hst) | skip); (first | (have s31 := s31.kept hst) | skip); (first | (have s7 := s7.kept hst) | skip); (first | (have s8 := s8.kept hst) | skip); (first | (have s9 := s9.kept hst) | skip); (first | (have s10 := s10.kept hst) | skip); (first | (have s11 := s11.kept hst) | skip); (first | (have s12 := s12.kept hst) | skip); (first | (have s13 := s13.kept hst) | skip); (first | (have hkw' := hkw'.tr hst) | skip); (first | (have hreg := hreg.tr hst) | skip); clear hst; have d0 := ff.b.h0; have d1 := ff.b.h1; have d2 := ff.b.h2; have hcq := (Kept.cell' hreg hbp2).trans hck2; obtain ⟨e8, e9⟩ := f8.eq HFR.out; subst e8 e9; clear f8))
          go_region_held3 (fun w' => w'.cell? ⟨w.heap.size, 0, none⟩ = some (.int .i64 P) ∧ w'.cell? ⟨w.heap.size, 1, none⟩ = some (.int .i64 M) ∧ w'.cell? ⟨w.heap.size, 2, none⟩ = some vm ∧ w'.cell? ⟨bp2, off2 + i, none⟩ = some (.int .i64 y)) (first | (simp [go_sem]; done) | (simp [*]; done))
            (first
              | (go_at_call 26; (with_reducible refine (rIn_any P M vm y _).mono ?_); rintro e wx ⟨rfl, kx⟩; have hst := Kept.from hcur (by first | exact Kept.rfl' _ | exact kept_alloc _ _ | exact kept_drew _ | exact kept_drewN _ _ | exact (kept_drew _).drewN _) kx; clear hcur kx; have hcur := cur wx; have hkc := hkc.tr hst; have ff := ff.kept hst; have skn := skn.kept hst; have slo := slo.kept hst; have sps := sps.kept hst; have sqs := sqs.kept hst; (first | (have s30 := s30.kept hst) | skip); (first | (have s31 := s31.kept hst) | skip); (first | (have s7 := s7.kept hst) | skip); (first | (have s8 := s8.kept hst) | skip); (first | (have s9 := s9.kept hst) | skip); (first | (have s10 := s10.kept hst) | skip); (first | (have s11 := s11.kept hst) | skip); (first | (have s12 := s12.kept hst) | skip); (first | (have s13 := s13.kept hst) | skip); (first | (have hkw' := hkw'.tr hst) | skip); (first | (have hreg := hreg.tr hst) | skip); clear hst; have d0 := ff.b.h0; have d1 := ff.b.h1; have d2 := ff.b.h2; rw [HU.out]; have hcq2 := (Kept.cell' hreg hbp2).trans hck2))
          all_goals
            go_wp2_with (fail)
            go_roundw
            case rel => exact ⟨i + 1, by omega, by go_num, hkw'⟩
            case measure => simp [intOf]; omega
end Go.Proofs.Ytmnbcnbhnclkhaa
