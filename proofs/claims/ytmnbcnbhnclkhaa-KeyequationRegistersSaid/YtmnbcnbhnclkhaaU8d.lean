/- The walk of the law KeyequationRegisters. No conditions. -/
import Derived.Test.YtmnbcnbhnclkhaaNaA
import Derived.Test.YtmnbcnbhnclkhaaNgA
import Derived.Test.YtmnbcnbhnclkhaaHb
namespace Go.Proofs.Ytmnbcnbhnclkhaa
open Go.RowKit Cw

theorem kSolve_pair0 (b : Nat) (G : GFd) (t : Tabs G) (vs : Value) (s : List Int) (r : Nat) (w : World) (hg : IsGF w b G) (hs : Sl w vs s) (ns : s.length ≤ 1000) (hr1 : 1 ≤ r) (hr2 : r ≤ 256) {L V : Pl (Rs t.fs.mon)} (hp : Pl.PairP (t.pl s) r 0 L V) :
    Calls Try.prog 19 #[.pointer (some ⟨b, 0, none⟩), vs, .int .i64 r, .int .i64 0] w (OutS G t (t.pl s) r 0 w) := by
  have H := kSolve_pair b G t vs s r 0 w hg hs ns hr1 hr2 (by omega) hp
  rw [show ((0 : Nat) : Int) = 0 from rfl] at H
  exact H
set_option maxRecDepth 100000 in
set_option maxHeartbeats 4000000 in
theorem keyequationRegisters_law (P M : Int) (vm : Value) (mod : List Int) (vu : Value) (u : List Int) (w : World) (hvm : Sl w vm mod) (hu : Sl w vu u) :
    Calls Try.prog 11 #[.agg #[.int .i64 P, .int .i64 M, vm], vu] w fun e w' => e = .returned (.bool true) ∧ Kept w w' := by
  have hkc := kept_alloc w (.cells #[.int .i64 P, .int .i64 M, vm] 24)
  have bb := boxF_new w P M vm 24
  have sm := hvm.kept hkc
  have su := hu.kept hkc
  obtain ⟨au, capu, rfl, qu1, ⟨qu2, _⟩, _⟩ := hu
  unfold maxLen at qu2
  go_enter Try.func11, Try.ntmps11
  go_wp2_with (go_at_call 13; (with_reducible refine (alive5_any _).mono ?_); rintro e w1 ⟨rfl, ka⟩; have bb := bb.kept ka; have sm := sm.kept ka; have hkc := hkc.tr ka; have su := su.kept ka; have d0 := bb.h0; have d1 := bb.h1; have d2 := bb.h2; clear ka)
  by_cases hf : FieldP P M mod
  case neg =>
    have HF := hid hf
    clear hf
    go_wp2_with (go_at_call 14; (with_reducible refine (made5_no P M vm mod _ sm HF.out).mono ?_); rintro e w2 ⟨rfl, k2⟩; have su := su.kept k2)
    go_ret
    exact ⟨rfl, hkc.tr k2⟩
  have HF := hid hf
  clear hf
  by_cases h1 : u.length < 1
  · have h2 : (u.length : Int) < 1 := by omega
    clear h1
    go_wp2_with (first
      | (go_at_call 14; (with_reducible refine (made5_yes P M vm mod _ sm HF.out).mono ?_); rintro e w2 ⟨b, G, rfl, g2, t, gP, gM, gm, k2⟩; have HO : Hid (Of G P M mod) := hid ⟨gP, gM, gm⟩; clear gP gM gm; have hkc := hkc.tr k2; have ff : Fw w2 b G w.heap.size P M vm mod := ⟨g2, bb.kept k2, sm.kept k2⟩; have su := su.kept k2; have d0 := ff.b.h0; have d1 := ff.b.h1; have d2 := ff.b.h2; clear k2 g2 bb sm; have hcur := cur w2))
    go_ret
    exact ⟨ret_bool (by first | rfl | (simp; done) | (simp; omega)), hkc⟩
  have h1a := h1
  clear h1
  by_cases h1 : 20 < u.length
  · have h2 : (20 : Int) < (u.length : Int) := by omega
    have h3 : (1 : Int) ≤ (u.length : Int) := by omega
    clear h1
    go_wp2_with (first
      | (go_at_call 14; (with_reducible refine (made5_yes P M vm mod _ sm HF.out).mono ?_); rintro e w2 ⟨b, G, rfl, g2, t, gP, gM, gm, k2⟩; have HO : Hid (Of G P M mod) := hid ⟨gP, gM, gm⟩; clear gP gM gm; have hkc := hkc.tr k2; have ff : Fw w2 b G w.heap.size P M vm mod := ⟨g2, bb.kept k2, sm.kept k2⟩; have su := su.kept k2; have d0 := ff.b.h0; have d1 := ff.b.h1; have d2 := ff.b.h2; clear k2 g2 bb sm; have hcur := cur w2))
    go_ret
    exact ⟨ret_bool (by first | rfl | (simp; done) | (simp; omega)), hkc⟩
  have h1b := h1
  clear h1
  have hu1 : (1 : Int) ≤ (u.length : Int) := by omega
  have hu2 : (u.length : Int) ≤ 20 := by omega
  have hu3 : 1 ≤ u.length := by omega
  have hu4 : u.length ≤ 20 := by omega
  clear h1a h1b
  go_wp2_with (first
    | (go_at_call 14; (with_reducible refine (made5_yes P M vm mod _ sm HF.out).mono ?_); rintro e w2 ⟨b, G, rfl, g2, t, gP, gM, gm, k2⟩; have HO : Hid (Of G P M mod) := hid ⟨gP, gM, gm⟩; clear gP gM gm; have hkc := hkc.tr k2; have ff : Fw w2 b G w.heap.size P M vm mod := ⟨g2, bb.kept k2, sm.kept k2⟩; have su := su.kept k2; have d0 := ff.b.h0; have d1 := ff.b.h1; have d2 := ff.b.h2; clear k2 g2 bb sm; have hcur := cur w2))
  refine (shortest_any b G t _ u _ (ff.g.kept (by first | exact Kept.rfl' _ | exact kept_alloc _ _ | exact kept_drew _ | exact kept_drewN _ _ | exact (kept_drew _).drewN _)) (su.kept (by first | exact Kept.rfl' _ | exact kept_alloc _ _ | exact kept_drew _ | exact kept_drewN _ _ | exact (kept_drew _).drewN _)) (by omega)).mono ?_
  rintro e wx ⟨v3, l3, m3, rfl, o3, kx, c3, old3, bb3, since3, hbm3⟩
  have hst := Kept.from hcur (by first | exact Kept.rfl' _ | exact kept_alloc _ _ | exact kept_drew _ | exact kept_drewN _ _ | exact (kept_drew _).drewN _) kx
  clear hcur kx
  have hcur := cur wx
  have hkc := hkc.tr hst
  have ff := ff.kept hst
  have su := su.kept hst
  (first | (have s3 := s3.kept hst) | skip)
  (first | (have s4 := s4.kept hst) | skip)
  (first | (have s5 := s5.kept hst) | skip)
  clear hst
  have d0 := ff.b.h0
  have d1 := ff.b.h1
  have d2 := ff.b.h2
  have s3 := o3.sl
  have BM3 := hid hbm3
  have m3b : m3 ≤ u.length := (by have := hbm3.s1; have := hbm3.s2; omega)
  have n3 : l3.length ≤ 301 := (by have h1 := hbm3.reg.len; rw [t.can_ln c3] at h1; omega)
  clear hbm3 o3
  have m0 : (0 : Int) ≤ (m3 : Int) := by omega
  have w1' : IntKind.i64.wrap (2 * (m3 : Int)) = 2 * (m3 : Int) := IntWalk.i64_in _ (by omega)
  by_cases hl : 2 * m3 ≤ u.length
  case neg =>
    have h1 : (u.length : Int) < 2 * (m3 : Int) := by omega
    clear hl
    go_wp2_with (fail)
    go_ret
    exact ⟨ret_bool (by first | rfl | (simp; done) | (simp; omega)), hkc⟩
  have HLE := hid hl
  have h1 : 2 * (m3 : Int) ≤ (u.length : Int) := by omega
  have HPR := hid (Pl.pair_reg (S := t.pl u) rfl BM3.out.reg hl)
  clear hl
  go_wp2_with (first
    | (go_at_call 19; (with_reducible refine (kSolve_pair0 b G t _ u u.length _ (ff.g.kept (by first | exact Kept.rfl' _ | exact kept_alloc _ _ | exact kept_drew _ | exact kept_drewN _ _ | exact (kept_drew _).drewN _)) (su.kept (by first | exact Kept.rfl' _ | exact kept_alloc _ _ | exact kept_drew _ | exact kept_drewN _ _ | exact (kept_drew _).drewN _)) (by omega) hu3 (by omega) HPR.out).mono ?_); rintro e wx ⟨v4, v5, l4, l5, rfl, o4, o5, kx, c4, c5, hsp⟩; have hst := Kept.from hcur (by first | exact Kept.rfl' _ | exact kept_alloc _ _ | exact kept_drew _ | exact kept_drewN _ _ | exact (kept_drew _).drewN _) kx; clear hcur kx; have hcur := cur wx; have hkc := hkc.tr hst; have ff := ff.kept hst; have su := su.kept hst; (first | (have s3 := s3.kept hst) | skip); (first | (have s4 := s4.kept hst) | skip); (first | (have s5 := s5.kept hst) | skip); clear hst; have d0 := ff.b.h0; have d1 := ff.b.h1; have d2 := ff.b.h2; have s4 := o4.sl; have E4 : Hid (l4 = l3) := hid (t.pl_inj c4 c3 (hsp.reg rfl BM3.out.reg BM3.out.least HLE.out)); clear hsp o4 o5 c5)
    | (go_at_call 17; (with_reducible refine (same_eq _ _ l4 l3 _ (s4.kept (by first | exact Kept.rfl' _ | exact kept_alloc _ _ | exact kept_drew _ | exact kept_drewN _ _ | exact (kept_drew _).drewN _)) (s3.kept (by first | exact Kept.rfl' _ | exact kept_alloc _ _ | exact kept_drew _ | exact kept_drewN _ _ | exact (kept_drew _).drewN _)) E4.out).mono ?_); rintro e wx ⟨rfl, kx⟩; have hst := Kept.from hcur (by first | exact Kept.rfl' _ | exact kept_alloc _ _ | exact kept_drew _ | exact kept_drewN _ _ | exact (kept_drew _).drewN _) kx; clear hcur kx; have hcur := cur wx; have hkc := hkc.tr hst; have ff := ff.kept hst; have su := su.kept hst; (first | (have s3 := s3.kept hst) | skip); (first | (have s4 := s4.kept hst) | skip); (first | (have s5 := s5.kept hst) | skip); clear hst; have d0 := ff.b.h0; have d1 := ff.b.h1; have d2 := ff.b.h2))
  go_ret
  exact ⟨ret_bool (by first | rfl | (simp; done) | (simp; omega)), hkc⟩
end Go.Proofs.Ytmnbcnbhnclkhaa
