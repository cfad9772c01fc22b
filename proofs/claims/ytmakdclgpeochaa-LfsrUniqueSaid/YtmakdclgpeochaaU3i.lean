/- The walk of the law LfsrUnique. No conditions. -/
import Derived.Test.YtmakdclgpeochaaNe
import Derived.Test.YtmakdclgpeochaaNf
import Derived.Test.YtmakdclgpeochaaIcA
namespace Go.Proofs.Ytmakdclgpeochaa
open Go.RowKit Cw

set_option maxRecDepth 100000 in
set_option maxHeartbeats 1000000 in
theorem uniq_r (b : Nat) (G : GFd) (t : Tabs G) (vs : Value) (s : List Int) (res : Bool) (w : World) (hg : IsGF w b G) (hs : Sl w vs s) (hl : s.length ≤ 300) (hr : BIf res (2 * Pl.cx (t.po s) s.length ≤ s.length)) :
    Calls Try.prog 26 #[.pointer (some ⟨b, 0, none⟩), vs] w fun e w' => e = .returned (.bool res) ∧ Kept w w' := by
  have hr : res = true ↔ _ := hr
  have hs0 := hs
  obtain ⟨a, cap, rfl, h1, ⟨h2, _⟩, _⟩ := hs
  unfold maxLen at h2
  go_enter Try.func26, Try.ntmps26
  go_wp2_with (fail)
  refine (shortest_any b G t _ s _ hg hs0 hl).mono ?_
  rintro e w2 ⟨v2, lc, m, rfl, o2, k2, c2, old, bb, since, hbm⟩
  have hcx := Pl.cx_of hbm.cx
  rw [hcx] at hr
  have m1 : m ≤ s.length := by have := hbm.s1; have := hbm.s2; omega
  have w1' : IntKind.i64.wrap (2 * (m : Int)) = 2 * (m : Int) := IntWalk.i64_in _ (by omega)
  have HR : Hid (decide (2 * (m : Int) ≤ (s.length : Int)) = res) := hid (by
    cases hres : res with
    | true => have := hr.1 hres; simp; omega
    | false =>
      have : ¬ 2 * m ≤ s.length := fun h => by rw [hr.2 h] at hres; cases hres
      simp; omega)
  clear hbm hr hcx
  go_wp2_with (fail)
  go_ret
  exact ⟨ret_bool HR.out, k2⟩
set_option maxRecDepth 100000 in
set_option maxHeartbeats 4000000 in
theorem lfsrUnique_law (P M : Int) (vm : Value) (mod : List Int) (vu : Value) (u : List Int) (w : World) (hvm : Sl w vm mod) (hu : Sl w vu u) :
    Calls Try.prog 9 #[.agg #[.int .i64 P, .int .i64 M, vm], vu] w fun e w' => e = .returned (.bool true) ∧ Kept w w' := by
  have hkc := kept_alloc w (.cells #[.int .i64 P, .int .i64 M, vm] 24)
  have bb := boxF_new w P M vm 24
  have sm := hvm.kept hkc
  have su := hu.kept hkc
  obtain ⟨au, capu, rfl, qu1, ⟨qu2, _⟩, _⟩ := hu
  unfold maxLen at qu2
  go_enter Try.func9, Try.ntmps9
  go_wp2_with (go_at_call 13; (with_reducible refine (alive5_any _).mono ?_); rintro e w1 ⟨rfl, ka⟩; have bb := bb.kept ka; have sm := sm.kept ka; have hkc := hkc.tr ka; have su := su.kept ka; have d0 := bb.h0; have d1 := bb.h1; have d2 := bb.h2; clear ka)
  by_cases hf : FieldP P M mod
  case neg =>
    have HF := hid hf
    clear hf
    go_wp2_with (go_at_call 14; (with_reducible refine (made5_no P M vm mod _ sm HF.out).mono ?_); rintro e w2 ⟨rfl, k2⟩)
    go_ret
    exact ⟨rfl, hkc.tr k2⟩
  have HF := hid hf
  clear hf
  by_cases hs : Shrt [u]
  case neg =>
    have HS := hid hs
    clear hs
    go_wp2_with (first
      | (go_at_call 14; (with_reducible refine (made5_yes P M vm mod _ sm HF.out).mono ?_); rintro e w2 ⟨b, G, rfl, g2, t, gP, gM, gm, k2⟩; have HO : Hid (Of G P M mod) := hid ⟨gP, gM, gm⟩; clear gP gM gm; have hkc := hkc.tr k2; have ff : Fw w2 b G w.heap.size P M vm mod := ⟨g2, bb.kept k2, sm.kept k2⟩; have su := su.kept k2; have d0 := ff.b.h0; have d1 := ff.b.h1; have d2 := ff.b.h2; clear k2 g2 bb sm; have hcur := cur w2)
      | (go_at_call 15; (with_reducible refine (short_r _ [u] _ (sll_one _ _ _ _ _ su) false (.inr ⟨rfl, HS.out⟩)).mono ?_); rintro e w3 ⟨rfl, k3⟩; have hst := Kept.tr (kept_alloc _ _) k3; have hkc := hkc.tr hst; have ff := ff.kept hst; have su := su.kept hst; clear hst k3 hcur; have hcur := cur w3; have d0 := ff.b.h0; have d1 := ff.b.h1; have d2 := ff.b.h2))
    go_ret
    exact ⟨rfl, hkc⟩
  have HS := hid hs
  have nu : u.length ≤ 24 := hs _ (by simp)
  clear hs
  go_wp2_with (first
    | (go_at_call 14; (with_reducible refine (made5_yes P M vm mod _ sm HF.out).mono ?_); rintro e w2 ⟨b, G, rfl, g2, t, gP, gM, gm, k2⟩; have HO : Hid (Of G P M mod) := hid ⟨gP, gM, gm⟩; clear gP gM gm; have hkc := hkc.tr k2; have ff : Fw w2 b G w.heap.size P M vm mod := ⟨g2, bb.kept k2, sm.kept k2⟩; have su := su.kept k2; have d0 := ff.b.h0; have d1 := ff.b.h1; have d2 := ff.b.h2; clear k2 g2 bb sm; have hcur := cur w2)
    | (go_at_call 15; (with_reducible refine (short_r _ [u] _ (sll_one _ _ _ _ _ su) true (.inl ⟨rfl, HS.out⟩)).mono ?_); rintro e w3 ⟨rfl, k3⟩; have hst := Kept.tr (kept_alloc _ _) k3; have hkc := hkc.tr hst; have ff := ff.kept hst; have su := su.kept hst; clear hst k3 hcur; have hcur := cur w3; have d0 := ff.b.h0; have d1 := ff.b.h1; have d2 := ff.b.h2))
  obtain ⟨x, hx⟩ : ∃ x, x = Pl.cx (t.po u) u.length := ⟨_, rfl⟩
  have HX : Hid (Pl.cx (t.po u) u.length = x) := hid hx.symm
  have nx : x ≤ u.length := by rw [hx]; exact Pl.cx_len _ _
  have w1' : IntKind.i64.wrap (2 * (x : Int)) = 2 * (x : Int) := IntWalk.i64_in _ (by omega)
  by_cases hb : 2 * x ≤ u.length
  · have HR : Hid (BIf true (2 * Pl.cx (t.po u) u.length ≤ u.length)) := hid ⟨fun _ => by rw [← hx]; exact hb, fun _ => rfl⟩
    have hb1 : 2 * (x : Int) ≤ (u.length : Int) := by omega
    clear hx hb
    go_wp2_with (first
      | (go_at_call 26; (with_reducible refine (uniq_r b G t _ u true _ (ff.g.kept (by first | exact Kept.rfl' _ | exact kept_alloc _ _ | exact kept_drew _ | exact kept_drewN _ _ | exact (kept_drew _).drewN _)) (su.kept (by first | exact Kept.rfl' _ | exact kept_alloc _ _ | exact kept_drew _ | exact kept_drewN _ _ | exact (kept_drew _).drewN _)) (by omega) HR.out).mono ?_); rintro e wx ⟨rfl, kx⟩; have hst := Kept.from hcur (by first | exact Kept.rfl' _ | exact kept_alloc _ _ | exact kept_drew _ | exact kept_drewN _ _ | exact (kept_drew _).drewN _) kx; clear hcur kx; have hcur := cur wx; have hkc := hkc.tr hst; have ff := ff.kept hst; have su := su.kept hst; clear hst; have d0 := ff.b.h0; have d1 := ff.b.h1; have d2 := ff.b.h2)
      | (go_at_call 27; (with_reducible refine (rUniq_r G t P M mod vm _ u true _ HO (ff.m.kept (by first | exact Kept.rfl' _ | exact kept_alloc _ _ | exact kept_drew _ | exact kept_drewN _ _ | exact (kept_drew _).drewN _)) (su.kept (by first | exact Kept.rfl' _ | exact kept_alloc _ _ | exact kept_drew _ | exact kept_drewN _ _ | exact (kept_drew _).drewN _)) (by omega) HR.out).mono ?_); rintro e wx ⟨rfl, kx⟩; have hst := Kept.from hcur (by first | exact Kept.rfl' _ | exact kept_alloc _ _ | exact kept_drew _ | exact kept_drewN _ _ | exact (kept_drew _).drewN _) kx; clear hcur kx; have hcur := cur wx; have hkc := hkc.tr hst; have ff := ff.kept hst; have su := su.kept hst; clear hst; have d0 := ff.b.h0; have d1 := ff.b.h1; have d2 := ff.b.h2)
      | (go_at_call 17; (with_reducible refine (rCx_r G t P M mod vm _ u _ HO (ff.m.kept (by first | exact Kept.rfl' _ | exact kept_alloc _ _ | exact kept_drew _ | exact kept_drewN _ _ | exact (kept_drew _).drewN _)) (su.kept (by first | exact Kept.rfl' _ | exact kept_alloc _ _ | exact kept_drew _ | exact kept_drewN _ _ | exact (kept_drew _).drewN _)) (by omega)).mono ?_); rintro e wx ⟨rfl, kx⟩; have hst := Kept.from hcur (by first | exact Kept.rfl' _ | exact kept_alloc _ _ | exact kept_drew _ | exact kept_drewN _ _ | exact (kept_drew _).drewN _) kx; clear hcur kx; have hcur := cur wx; have hkc := hkc.tr hst; have ff := ff.kept hst; have su := su.kept hst; clear hst; have d0 := ff.b.h0; have d1 := ff.b.h1; have d2 := ff.b.h2; rw [HX.out]))
    go_ret
    exact ⟨ret_bool (by first | rfl | (simp; done) | (simp; omega)), hkc⟩
  · have HR : Hid (BIf false (2 * Pl.cx (t.po u) u.length ≤ u.length)) := hid ⟨(fun h => by cases h), fun h => absurd (by rw [← hx] at h; exact h) hb⟩
    have hb1 : (u.length : Int) < 2 * (x : Int) := by omega
    clear hx hb
    go_wp2_with (first
      | (go_at_call 26; (with_reducible refine (uniq_r b G t _ u false _ (ff.g.kept (by first | exact Kept.rfl' _ | exact kept_alloc _ _ | exact kept_drew _ | exact kept_drewN _ _ | exact (kept_drew _).drewN _)) (su.kept (by first | exact Kept.rfl' _ | exact kept_alloc _ _ | exact kept_drew _ | exact kept_drewN _ _ | exact (kept_drew _).drewN _)) (by omega) HR.out).mono ?_); rintro e wx ⟨rfl, kx⟩; have hst := Kept.from hcur (by first | exact Kept.rfl' _ | exact kept_alloc _ _ | exact kept_drew _ | exact kept_drewN _ _ | exact (kept_drew _).drewN _) kx; clear hcur kx; have hcur := cur wx; have hkc := hkc.tr hst; have ff := ff.kept hst; have su := su.kept hst; clear hst; have d0 := ff.b.h0; have d1 := ff.b.h1; have d2 := ff.b.h2)
      | (go_at_call 27; (with_reducible refine (rUniq_r G t P M mod vm _ u false _ HO (ff.m.kept (by first | exact Kept.rfl' _ | exact kept_alloc _ _ | exact kept_drew _ | exact kept_drewN _ _ | exact (kept_drew _).drewN _)) (su.kept (by first | exact Kept.rfl' _ | exact kept_alloc _ _ | exact kept_drew _ | exact kept_drewN _ _ | exact (kept_drew _).drewN _)) (by omega) HR.out).mono ?_); rintro e wx ⟨rfl, kx⟩; have hst := Kept.from hcur (by first | exact Kept.rfl' _ | exact kept_alloc _ _ | exact kept_drew _ | exact kept_drewN _ _ | exact (kept_drew _).drewN _) kx; clear hcur kx; have hcur := cur wx; have hkc := hkc.tr hst; have ff := ff.kept hst; have su := su.kept hst; clear hst; have d0 := ff.b.h0; have d1 := ff.b.h1; have d2 := ff.b.h2)
      | (go_at_call 17; (with_reducible refine (rCx_r G t P M mod vm _ u _ HO (ff.m.kept (by first | exact Kept.rfl' _ | exact kept_alloc _ _ | exact kept_drew _ | exact kept_drewN _ _ | exact (kept_drew _).drewN _)) (su.kept (by first | exact Kept.rfl' _ | exact kept_alloc _ _ | exact kept_drew _ | exact kept_drewN _ _ | exact (kept_drew _).drewN _)) (by omega)).mono ?_); rintro e wx ⟨rfl, kx⟩; have hst := Kept.from hcur (by first | exact Kept.rfl' _ | exact kept_alloc _ _ | exact kept_drew _ | exact kept_drewN _ _ | exact (kept_drew _).drewN _) kx; clear hcur kx; have hcur := cur wx; have hkc := hkc.tr hst; have ff := ff.kept hst; have su := su.kept hst; clear hst; have d0 := ff.b.h0; have d1 := ff.b.h1; have d2 := ff.b.h2; rw [HX.out]))
    go_ret
    exact ⟨ret_bool (by first | rfl | (simp; done) | (simp; omega)), hkc⟩
end Go.Proofs.Ytmakdclgpeochaa
