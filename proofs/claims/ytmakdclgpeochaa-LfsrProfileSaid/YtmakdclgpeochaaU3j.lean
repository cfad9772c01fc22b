/- The walk of the law LfsrProfile. No conditions. -/
import Derived.Test.YtmakdclgpeochaaNe
import Derived.Test.YtmakdclgpeochaaNf
import Derived.Test.YtmakdclgpeochaaIcA
namespace Go.Proofs.Ytmakdclgpeochaa
open Go.RowKit Cw

theorem sl_take {w : World} {a : Option Addr} {n cap k : Nat} {l : List Int} (h : Sl w (.slice a n cap) l) (hk : k ≤ l.length) : Sl w (.slice a k cap) (l.take k) := by
  obtain ⟨_, _, e, h1, h2, hc⟩ := h
  cases e
  have hl : (l.take k).length = k := by rw [List.length_take]; omega
  refine ⟨_, _, by rw [hl], by omega, h2, fun hne => ?_⟩
  have hl0 : l ≠ [] := fun e => hne (by rw [e]; simp)
  obtain ⟨b, off, rfl, hb, hcell⟩ := hc hl0
  refine ⟨b, off, rfl, hb, fun i hi => ?_⟩
  rw [hl] at hi
  rw [hcell i (by omega)]
  simp [List.getD, hi]
theorem po_take_low {G : GFd} (t : Tabs G) (l : List Int) (k : Nat) : ∀ i, i < k → t.po (l.take k) i = t.po l i := fun i hi => by
  show t.e ((l.take k).getD i 0) = t.e (l.getD i 0)
  simp [List.getD, hi]
set_option maxRecDepth 100000 in
set_option maxHeartbeats 4000000 in
theorem lfsrProfile_law (P M : Int) (vm : Value) (mod : List Int) (vu : Value) (u : List Int) (w : World) (hvm : Sl w vm mod) (hu : Sl w vu u) :
    Calls Try.prog 5 #[.agg #[.int .i64 P, .int .i64 M, vm], vu] w fun e w' => e = .returned (.bool true) ∧ Kept w w' := by
  have hkc := kept_alloc w (.cells #[.int .i64 P, .int .i64 M, vm] 24)
  have bb := boxF_new w P M vm 24
  have sm := hvm.kept hkc
  have su := hu.kept hkc
  obtain ⟨au, capu, rfl, qu1, ⟨qu2, _⟩, _⟩ := hu
  unfold maxLen at qu2
  go_enter Try.func5, Try.ntmps5
  go_wp2_with (go_at_call 13; (with_reducible refine (alive5_any _).mono ?_); rintro e w1 ⟨rfl, ka⟩; have bb := bb.kept ka; have sm := sm.kept ka; have hkc := hkc.tr ka; have su := su.kept ka; have d0 := bb.h0; have d1 := bb.h1; have d2 := bb.h2; clear ka)
  by_cases hf : FieldP P M mod
  case neg =>
    have HF := hid hf
    clear hf
    go_wp2_with (go_at_call 14; (with_reducible refine (made5_no P M vm mod _ sm HF.out).mono ?_); rintro e w2 ⟨rfl, k2⟩)
    go_ret
    exact ⟨rfl, hkc.tr k2⟩
  have HF := hid hf
  clear hf
  by_cases h1 : 16 < u.length
  · have h2 : (16 : Int) < (u.length : Int) := by omega
    clear h1
    go_wp2_with (first
      | (go_at_call 14; (with_reducible refine (made5_yes P M vm mod _ sm HF.out).mono ?_); rintro e w2 ⟨b, G, rfl, g2, t, gP, gM, gm, k2⟩; have HO : Hid (Of G P M mod) := hid ⟨gP, gM, gm⟩; clear gP gM gm; have hkc := hkc.tr k2; have ff : Fw w2 b G w.heap.size P M vm mod := ⟨g2, bb.kept k2, sm.kept k2⟩; have su := su.kept k2; have d0 := ff.b.h0; have d1 := ff.b.h1; have d2 := ff.b.h2; clear k2 g2 bb sm; have hcur := cur w2))
    go_ret
    exact ⟨ret_bool (by first | rfl | (simp; done) | (simp; omega)), hkc⟩
  have nu : u.length ≤ 16 := by omega
  have nu2 : (u.length : Int) ≤ 16 := by omega
  clear h1
  go_wp2_with (first
    | (go_at_call 14; (with_reducible refine (made5_yes P M vm mod _ sm HF.out).mono ?_); rintro e w2 ⟨b, G, rfl, g2, t, gP, gM, gm, k2⟩; have HO : Hid (Of G P M mod) := hid ⟨gP, gM, gm⟩; clear gP gM gm; have hkc := hkc.tr k2; have ff : Fw w2 b G w.heap.size P M vm mod := ⟨g2, bb.kept k2, sm.kept k2⟩; have su := su.kept k2; have d0 := ff.b.h0; have d1 := ff.b.h1; have d2 := ff.b.h2; clear k2 g2 bb sm; have hcur := cur w2))
  refine (profile_any b G t _ u _ (ff.g.kept (by first | exact Kept.rfl' _ | exact kept_alloc _ _ | exact kept_drew _ | exact kept_drewN _ _ | exact (kept_drew _).drewN _)) (su.kept (by first | exact Kept.rfl' _ | exact kept_alloc _ _ | exact kept_drew _ | exact kept_drewN _ _ | exact (kept_drew _).drewN _)) (by omega)).mono ?_
  rintro e wx ⟨v3, l3, rfl, o3, kx, hp3⟩
  have hst := Kept.from hcur (by first | exact Kept.rfl' _ | exact kept_alloc _ _ | exact kept_drew _ | exact kept_drewN _ _ | exact (kept_drew _).drewN _) kx
  clear hcur kx
  have hcur := cur wx
  have hkc := hkc.tr hst
  have ff := ff.kept hst
  have su := su.kept hst
  (first | (have s3 := s3.kept hst) | skip)
  clear hst
  have d0 := ff.b.h0
  have d1 := ff.b.h1
  have d2 := ff.b.h2
  have s3 := o3.sl
  have H3 := hid hp3
  have e3 := hp3.1
  clear hp3 o3
  have z3 := s3
  obtain ⟨a3, cp3, rfl, ta3, ⟨tb3, _⟩, _⟩ := z3
  unfold maxLen at tb3
  have E3 := hid e3
  have z4 := s3
  obtain ⟨_, _, e4, _, _, hc3⟩ := z4
  cases e4
  obtain ⟨b3, off3, e4, hb3, hcell⟩ := hc3 (by intro e; rw [e] at e3; simp at e3)
  cases e4
  have te : ((l3.length : Int) != (u.length : Int) + 1) = false := by rw [e3]; simp
  have HC := hid hcell
  obtain ⟨wL, hwL⟩ : ∃ x, x = wx := ⟨_, rfl⟩
  subst hwL
  clear e3 hcell hc3
  go_wp2_with (fail)
  go_loopw [30] (fun vi wr => ∃ k : Nat, k ≤ l3.length ∧ vi = .int .i64 k ∧ Kept wL wr) (fun vi _ => l3.length - (intOf vi).toNat)
  case atStart => exact ⟨0, by omega, rfl, Kept.rfl' _⟩
  case round =>
    obtain ⟨k, hk, rfl, hkw⟩ := hrel
    have ff := ff.kept hkw
    have su := su.kept hkw
    have hkc := hkc.tr hkw
    have d0 := ff.b.h0
    have d1 := ff.b.h1
    have d2 := ff.b.h2
    clear hcur
    have hcur := cur wr
    have hkw' := hkw
    by_cases hlt : k < l3.length
    case neg =>
      have hge : (l3.length : Int) ≤ (k : Int) := by omega
      clear hlt
      go_wp2_with (fail)
      go_ret
      exact ⟨rfl, hkc⟩
    have hku : k ≤ u.length := by have := E3.out; omega
    have q1 := (Kept.cell' hkw hb3).trans (HC.out k hlt)
    rw [H3.out.2 k (by omega)] at q1
    obtain ⟨x, hx⟩ : ∃ x, x = Pl.cx (t.po u) k := ⟨_, rfl⟩
    rw [← hx] at q1
    have HX : Hid (Pl.cx (t.po (u.take k)) (u.take k).length = x) := hid (by
      rw [List.length_take, Nat.min_eq_left hku, hx]
      exact Pl.cx_congr (fun i hi => po_take_low t u k i hi))
    have sut := sl_take su hku
    have hb3' := Kept.lt hkw hb3
    have k0 : (0 : Int) ≤ (k : Int) := by omega
    have k1 : (k : Int) < (l3.length : Int) := by omega
    have k2 : (k : Int) ≤ (u.length : Int) := by omega
    have k3 : (k : Int) ≤ (capu : Int) := by omega
    have ntk : (u.take k).length ≤ 1000 := by rw [List.length_take]; omega
    have hreg := Kept.rfl' wr
    clear hx
    go_wp2_with (fail)
    go_region_held3 (fun w' => w'.cell? ⟨w.heap.size, 0, none⟩ = some (.int .i64 P) ∧ w'.cell? ⟨w.heap.size, 1, none⟩ = some (.int .i64 M) ∧ w'.cell? ⟨w.heap.size, 2, none⟩ = some vm ∧ w'.cell? ⟨b3, off3 + k, none⟩ = some (.int .i64 x)) (first | (simp [go_sem]; done) | (simp [*]; done))
      (first
        | (go_at_call 17; (with_reducible refine (rCx_r G t P M mod vm _ (u.take k) _ HO (ff.m.kept (by first | exact Kept.rfl' _ | exact kept_alloc _ _ | exact kept_drew _ | exact kept_drewN _ _ | exact (kept_drew _).drewN _)) (sut.kept (by first | exact Kept.rfl' _ | exact kept_alloc _ _ | exact kept_drew _ | exact kept_drewN _ _ | exact (kept_drew _).drewN _)) ntk).mono ?_); rintro e wx ⟨rfl, kx⟩; have hst := Kept.from hcur (by first | exact Kept.rfl' _ | exact kept_alloc _ _ | exact kept_drew _ | exact kept_drewN _ _ | exact (kept_drew _).drewN _) kx; clear hcur kx; have hcur := cur wx; have hkc := hkc.tr hst; have ff := ff.kept hst; have su := su.kept hst; (first | (have s3 := s3.kept hst) | skip); (first | (have sut := sut.kept hst) | skip); (first | (have hkw' := hkw'.tr hst) | skip); (first | (have hreg := hreg.tr hst) | skip); clear hst; have d0 := ff.b.h0; have d1 := ff.b.h1; have d2 := ff.b.h2; rw [HX.out]; have q2 := (Kept.cell' hreg hb3').trans q1))
    all_goals
      go_wp2_with (fail)
      go_roundw
      case rel => exact ⟨k + 1, by omega, by go_num, by first | exact hkw' | exact hkw'.drew | exact hkw'.drewN _⟩
      case measure => simp [intOf]; omega
end Go.Proofs.Ytmakdclgpeochaa
