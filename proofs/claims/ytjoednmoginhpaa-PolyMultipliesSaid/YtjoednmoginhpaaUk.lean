/- The walk of the law PolyMultiplies. No conditions. -/
import Derived.Test.YtjoednmoginhpaaNd
import Derived.Test.YtjoednmoginhpaaQc
namespace Go.Proofs.Ytjoednmoginhpaa
open Go.RowKit Cw

theorem shrt_all {ls : List (List Int)} (h : Shrt ls) (i : Nat) : (ls.getD i []).length ≤ 24 := by
  by_cases hi : i < ls.length
  · exact shrt_at h hi
  · rw [show ls.getD i [] = [] by rw [List.getD_eq_getElem?_getD, List.getElem?_eq_none (by omega)]; rfl]; simp

set_option maxRecDepth 100000 in
set_option maxHeartbeats 4000000 in
theorem polyMultiplies_law (P M : Int) (vm : Value) (mod : List Int) (a : Int) (v : Value) (fs : List (List Int)) (w : World) (hvm : Sl w vm mod) (hL : SlL w v fs) :
    Calls Try.prog 5 #[.agg #[.int .i64 P, .int .i64 M, vm], .int .i64 a, v] w fun e w' => e = .returned (.bool true) ∧ Kept w w' := by
  have hkc := kept_alloc w (.cells #[.int .i64 P, .int .i64 M, vm] 24)
  have bb := boxF_new w P M vm 24
  have sm := hvm.kept hkc
  have sL := hL.kept hkc
  obtain ⟨aL, capL, rfl, qL1, qL2, _⟩ := hL
  unfold maxLen at qL2
  go_enter Try.func5, Try.ntmps5
  go_wp2_with (go_at_call 20; (with_reducible refine (alive5_any _).mono ?_); rintro e w1 ⟨rfl, ka⟩; have bb := bb.kept ka; have sm := sm.kept ka; have hkc := hkc.tr ka; have sL := sL.kept ka; have d0 := bb.h0; have d1 := bb.h1; have d2 := bb.h2; clear ka)
  by_cases hf : FieldP P M mod
  case neg =>
    have HF := hid hf
    clear hf
    go_wp2_with (go_at_call 21; (with_reducible refine (made5_no P M vm mod _ sm HF.out).mono ?_); rintro e w2 ⟨rfl, k2⟩)
    go_ret
    exact ⟨rfl, hkc.tr k2⟩
  have HF := hid hf
  clear hf
  by_cases h4 : 4 < fs.length
  · have H4 : (4 : Int) < (fs.length : Int) := by omega
    clear h4
    go_wp2_with (first
      | (go_at_call 21; (with_reducible refine (made5_yes P M vm mod _ sm HF.out).mono ?_); rintro e w2 ⟨b, G, rfl, g2, t, gP, gM, gm, k2⟩; have HO : Hid (Of G P M mod) := hid ⟨gP, gM, gm⟩; clear gP gM gm; have hkc := hkc.tr k2; have ff : Fw w2 b G w.heap.size P M vm mod := ⟨g2, bb.kept k2, sm.kept k2⟩; have sL := sL.kept k2; have d0 := ff.b.h0; have d1 := ff.b.h1; have d2 := ff.b.h2; clear k2 g2 bb sm; have hcur := cur w2))
    go_ret
    exact ⟨rfl, hkc⟩
  have H4 : (fs.length : Int) ≤ 4 := by omega
  clear h4
  by_cases hs : Shrt fs
  case neg =>
    have HS := hid hs
    clear hs
    go_wp2_with (first
      | (go_at_call 21; (with_reducible refine (made5_yes P M vm mod _ sm HF.out).mono ?_); rintro e w2 ⟨b, G, rfl, g2, t, gP, gM, gm, k2⟩; have HO : Hid (Of G P M mod) := hid ⟨gP, gM, gm⟩; clear gP gM gm; have hkc := hkc.tr k2; have ff : Fw w2 b G w.heap.size P M vm mod := ⟨g2, bb.kept k2, sm.kept k2⟩; have sL := sL.kept k2; have d0 := ff.b.h0; have d1 := ff.b.h1; have d2 := ff.b.h2; clear k2 g2 bb sm; have hcur := cur w2)
      | (go_at_call 22; (with_reducible refine (short_r _ fs _ sL false (.inr ⟨rfl, HS.out⟩)).mono ?_); rintro e w3 ⟨rfl, k3⟩; have hst := k3; have hkc := hkc.tr hst; have ff := ff.kept hst; have sL := sL.kept hst; clear hst k3 hcur; have hcur := cur w3; have d0 := ff.b.h0; have d1 := ff.b.h1; have d2 := ff.b.h2))
    go_ret
    exact ⟨rfl, hkc⟩
  have HS := hid hs
  have HL : Hid (∀ i, (fs.getD i []).length ≤ 24) := hid (shrt_all hs)
  clear hs
  go_wp2_with (first
    | (go_at_call 21; (with_reducible refine (made5_yes P M vm mod _ sm HF.out).mono ?_); rintro e w2 ⟨b, G, rfl, g2, t, gP, gM, gm, k2⟩; have HO : Hid (Of G P M mod) := hid ⟨gP, gM, gm⟩; clear gP gM gm; have hkc := hkc.tr k2; have ff : Fw w2 b G w.heap.size P M vm mod := ⟨g2, bb.kept k2, sm.kept k2⟩; have sL := sL.kept k2; have d0 := ff.b.h0; have d1 := ff.b.h1; have d2 := ff.b.h2; clear k2 g2 bb sm; have hcur := cur w2)
    | (go_at_call 22; (with_reducible refine (short_r _ fs _ sL true (.inl ⟨rfl, HS.out⟩)).mono ?_); rintro e w3 ⟨rfl, k3⟩; have hst := k3; have hkc := hkc.tr hst; have ff := ff.kept hst; have sL := sL.kept hst; clear hst k3 hcur; have hcur := cur w3; have d0 := ff.b.h0; have d1 := ff.b.h1; have d2 := ff.b.h2))
  have kA := kept_alloc w3 (.cells #[.int .i64 1] 3)
  have oA := own_one' w3 1
  go_loopw [8, 31] (fun vo vi wr => ∃ (k : Nat) (l2 : List Int), k ≤ fs.length ∧ vi = .int .i64 k ∧ Sl wr vo l2 ∧ Kept w3 wr ∧ Cano G l2 ∧ Hid (t.pl l2 = prP t fs k) ∧ l2.length ≤ 1 + 24 * k) (fun _ vi _ => fs.length - (intOf vi).toNat)
  case atStart => exact ⟨0, [1], by omega, rfl, oA, kA, cano_one t, hid t.pl_one, by simp⟩
  case round =>
    obtain ⟨k, l2, hk, rfl, s2, hkw, c2, p2, n2⟩ := hrel
    have ff := ff.kept hkw
    have sL := sL.kept hkw
    have hkc := hkc.tr hkw
    have d0 := ff.b.h0
    have d1 := ff.b.h1
    have d2 := ff.b.h2
    clear hcur kA oA
    have hcur := cur wr
    by_cases hlt : k < fs.length
    · have sL' := sL
      obtain ⟨_, _, e2, _, _, hcc⟩ := sL'
      cases e2
      obtain ⟨bb, off, e3, hbb, hcell⟩ := hcc (by intro e; rw [e] at hlt; simp at hlt)
      cases e3
      obtain ⟨a', c', hck, hsl⟩ := hcell k hlt
      have hlk := HL.out k
      have HQ : Hid (prP t fs (k + 1) = prP t fs k * t.pl (fs.getD k [])) := hid rfl
      obtain ⟨lk, hlke⟩ : ∃ x, x = fs.getD k [] := ⟨_, rfl⟩
      rw [← hlke] at hck hsl hlk HQ
      clear hlke
      have hki : (k : Int) < (fs.length : Int) := by omega
      have k0 : (0 : Int) ≤ (k : Int) := by omega
      have hkw' := hkw
      clear hcell hcc
      go_wp2_with (first
        | (go_at_call 26; (with_reducible refine (rMul_p G t P M mod vm _ _ l2 lk _ HO ff.m s2 hsl (by omega) (by omega)).mono ?_); rintro e wx ⟨v4, l4, rfl, o4, kx, c4, p4⟩; have hst := Kept.from hcur (by first | exact Kept.rfl' _ | exact kept_alloc _ _ | exact kept_drew _ | exact kept_drewN _ _ | exact (kept_drew _).drewN _) kx; clear hcur kx; have hcur := cur wx; have hkc := hkc.tr hst; have ff := ff.kept hst; have sL := sL.kept hst; (first | (have s2 := s2.kept hst) | skip); (first | (have hsl := hsl.kept hst) | skip); (first | (have s6 := s6.kept hst) | skip); (first | (have s7 := s7.kept hst) | skip); (first | (have s8 := s8.kept hst) | skip); (first | (have hkw' := hkw'.tr hst) | skip); clear hst; have d0 := ff.b.h0; have d1 := ff.b.h1; have d2 := ff.b.h2; have s4 := o4.sl; have P4 := hid p4; clear p4 o4; have n4 : l4.length ≤ 1 + 24 * (k + 1) := (by have := t.can_ln' c4 P4.out; have := Pl.ln_mul_le (t.pl l2) (t.pl lk); have := t.pl_ln_le l2; have := t.pl_ln_le lk; omega)))
      go_roundw
      case rel => exact ⟨k + 1, l4, by omega, by go_num, s4, hkw', c4, hid (by rw [P4.out, p2.out, HQ.out]), n4⟩
      case measure => simp [intOf]; omega
    · have ek : k = fs.length := by omega
      have HP : Hid (t.pl l2 = prP t fs fs.length) := hid (by rw [p2.out, ek])
      have n2' : l2.length ≤ 97 := by omega
      have hge : (fs.length : Int) ≤ (k : Int) := by omega
      clear ek hlt p2
      go_wp2_with (first
        | (go_at_call 31; (with_reducible refine (pmul_p b G t _ _ fs ff.g sL (by omega) (fun i => by have := HL.out i; omega)).mono ?_); rintro e wx ⟨v6, l6, rfl, o6, kx, c6, p6⟩; have hst := Kept.from hcur (by first | exact Kept.rfl' _ | exact kept_alloc _ _ | exact kept_drew _ | exact kept_drewN _ _ | exact (kept_drew _).drewN _) kx; clear hcur kx; have hcur := cur wx; have hkc := hkc.tr hst; have ff := ff.kept hst; have sL := sL.kept hst; (first | (have s2 := s2.kept hst) | skip); (first | (have hsl := hsl.kept hst) | skip); (first | (have s6 := s6.kept hst) | skip); (first | (have s7 := s7.kept hst) | skip); (first | (have s8 := s8.kept hst) | skip); clear hst; have d0 := ff.b.h0; have d1 := ff.b.h1; have d2 := ff.b.h2; have s6 := o6.sl; have P6 := hid p6; clear p6 o6; have n6 : l6.length ≤ 97 := (by have h1 := t.can_ln' c6 P6.out; rw [← HP.out] at h1; have := t.pl_ln_le l2; omega)))
      go_region_held3 (fun w' => w'.cell? ⟨w.heap.size, 0, none⟩ = some (.int .i64 P) ∧ w'.cell? ⟨w.heap.size, 1, none⟩ = some (.int .i64 M) ∧ w'.cell? ⟨w.heap.size, 2, none⟩ = some vm) (first | (simp [go_sem]; done) | (simp [*]; done))
        (first
          | (go_at_call 27; (with_reducible refine (same_eq _ _ l6 l2 _ (s6.kept (by first | exact Kept.rfl' _ | exact kept_alloc _ _ | exact kept_drew _ | exact kept_drewN _ _ | exact (kept_drew _).drewN _)) (s2.kept (by first | exact Kept.rfl' _ | exact kept_alloc _ _ | exact kept_drew _ | exact kept_drewN _ _ | exact (kept_drew _).drewN _)) (t.pl_inj c6 c2 (by rw [P6.out, HP.out]))).mono ?_); rintro e wx ⟨rfl, kx⟩; have hst := Kept.from hcur (by first | exact Kept.rfl' _ | exact kept_alloc _ _ | exact kept_drew _ | exact kept_drewN _ _ | exact (kept_drew _).drewN _) kx; clear hcur kx; have hcur := cur wx; have hkc := hkc.tr hst; have ff := ff.kept hst; have sL := sL.kept hst; (first | (have s2 := s2.kept hst) | skip); (first | (have hsl := hsl.kept hst) | skip); (first | (have s6 := s6.kept hst) | skip); (first | (have s7 := s7.kept hst) | skip); (first | (have s8 := s8.kept hst) | skip); clear hst; have d0 := ff.b.h0; have d1 := ff.b.h1; have d2 := ff.b.h2)
          | (go_at_call 32; (with_reducible refine (pscale_p b G t _ l6 _ a (ff.g.kept (by first | exact Kept.rfl' _ | exact kept_alloc _ _ | exact kept_drew _ | exact kept_drewN _ _ | exact (kept_drew _).drewN _)) (s6.kept (by first | exact Kept.rfl' _ | exact kept_alloc _ _ | exact kept_drew _ | exact kept_drewN _ _ | exact (kept_drew _).drewN _)) (by omega)).mono ?_); rintro e wx ⟨v7, l7, rfl, o7, kx, c7, p7⟩; have hst := Kept.from hcur (by first | exact Kept.rfl' _ | exact kept_alloc _ _ | exact kept_drew _ | exact kept_drewN _ _ | exact (kept_drew _).drewN _) kx; clear hcur kx; have hcur := cur wx; have hkc := hkc.tr hst; have ff := ff.kept hst; have sL := sL.kept hst; (first | (have s2 := s2.kept hst) | skip); (first | (have hsl := hsl.kept hst) | skip); (first | (have s6 := s6.kept hst) | skip); (first | (have s7 := s7.kept hst) | skip); (first | (have s8 := s8.kept hst) | skip); clear hst; have d0 := ff.b.h0; have d1 := ff.b.h1; have d2 := ff.b.h2; have s7 := o7.sl; have P7 := hid p7; clear p7 o7)
          | (go_at_call 33; (with_reducible refine (rScale_p G t P M mod vm a _ l2 _ HO (ff.m.kept (by first | exact Kept.rfl' _ | exact kept_alloc _ _ | exact kept_drew _ | exact kept_drewN _ _ | exact (kept_drew _).drewN _)) (s2.kept (by first | exact Kept.rfl' _ | exact kept_alloc _ _ | exact kept_drew _ | exact kept_drewN _ _ | exact (kept_drew _).drewN _)) (by omega)).mono ?_); rintro e wx ⟨v8, l8, rfl, o8, kx, c8, p8⟩; have hst := Kept.from hcur (by first | exact Kept.rfl' _ | exact kept_alloc _ _ | exact kept_drew _ | exact kept_drewN _ _ | exact (kept_drew _).drewN _) kx; clear hcur kx; have hcur := cur wx; have hkc := hkc.tr hst; have ff := ff.kept hst; have sL := sL.kept hst; (first | (have s2 := s2.kept hst) | skip); (first | (have hsl := hsl.kept hst) | skip); (first | (have s6 := s6.kept hst) | skip); (first | (have s7 := s7.kept hst) | skip); (first | (have s8 := s8.kept hst) | skip); clear hst; have d0 := ff.b.h0; have d1 := ff.b.h1; have d2 := ff.b.h2; have s8 := o8.sl; have P8 := hid p8; clear p8 o8)
          | (go_at_call 27; (with_reducible refine (same_eq _ _ l7 l8 _ (s7.kept (by first | exact Kept.rfl' _ | exact kept_alloc _ _ | exact kept_drew _ | exact kept_drewN _ _ | exact (kept_drew _).drewN _)) (s8.kept (by first | exact Kept.rfl' _ | exact kept_alloc _ _ | exact kept_drew _ | exact kept_drewN _ _ | exact (kept_drew _).drewN _)) (t.pl_inj c7 c8 (by rw [P7.out, P8.out, P6.out, HP.out]))).mono ?_); rintro e wx ⟨rfl, kx⟩; have hst := Kept.from hcur (by first | exact Kept.rfl' _ | exact kept_alloc _ _ | exact kept_drew _ | exact kept_drewN _ _ | exact (kept_drew _).drewN _) kx; clear hcur kx; have hcur := cur wx; have hkc := hkc.tr hst; have ff := ff.kept hst; have sL := sL.kept hst; (first | (have s2 := s2.kept hst) | skip); (first | (have hsl := hsl.kept hst) | skip); (first | (have s6 := s6.kept hst) | skip); (first | (have s7 := s7.kept hst) | skip); (first | (have s8 := s8.kept hst) | skip); clear hst; have d0 := ff.b.h0; have d1 := ff.b.h1; have d2 := ff.b.h2))
      all_goals
        go_wp2_with (fail)
        go_ret
        exact ⟨ret_bool (by simp), hkc⟩
end Go.Proofs.Ytjoednmoginhpaa
