/- The walk of the law LfsrJumps. No conditions. -/
import Derived.Test.YtmakdclgpeochaaNe
import Derived.Test.YtmakdclgpeochaaNf
import Derived.Test.YtmakdclgpeochaaIa
namespace Go.Proofs.Ytmakdclgpeochaa
open Go.RowKit Cw

set_option maxRecDepth 100000 in
set_option maxHeartbeats 4000000 in
theorem lfsrJumps_law (P M : Int) (vm : Value) (mod : List Int) (vu : Value) (u : List Int) (w : World) (hvm : Sl w vm mod) (hu : Sl w vu u) :
    Calls Try.prog 6 #[.agg #[.int .i64 P, .int .i64 M, vm], vu] w fun e w' => e = .returned (.bool true) ∧ Kept w w' := by
  have hkc := kept_alloc w (.cells #[.int .i64 P, .int .i64 M, vm] 24)
  have bb := boxF_new w P M vm 24
  have sm := hvm.kept hkc
  have su := hu.kept hkc
  obtain ⟨au, capu, rfl, qu1, ⟨qu2, _⟩, _⟩ := hu
  unfold maxLen at qu2
  go_enter Try.func6, Try.ntmps6
  go_wp2_with (go_at_call 13; (with_reducible refine (alive5_any _).mono ?_); rintro e w1 ⟨rfl, ka⟩; have bb := bb.kept ka; have sm := sm.kept ka; have hkc := hkc.tr ka; have su := su.kept ka; have d0 := bb.h0; have d1 := bb.h1; have d2 := bb.h2; clear ka)
  by_cases hf : FieldP P M mod
  case neg =>
    have HF := hid hf
    clear hf
    go_wp2_with (go_at_call 14; (with_reducible refine (made5_no P M vm mod _ sm HF.out).mono ?_); rintro e w2 ⟨rfl, k2⟩)
    go_ret
    exact ⟨rfl, hkc.tr k2⟩
  have HF := hid hf
  clear hf
  by_cases hs : Shrt [u]
  case neg =>
    have HS := hid hs
    clear hs
    go_wp2_with (first
      | (go_at_call 14; (with_reducible refine (made5_yes P M vm mod _ sm HF.out).mono ?_); rintro e w2 ⟨b, G, rfl, g2, t, gP, gM, gm, k2⟩; have HO : Hid (Of G P M mod) := hid ⟨gP, gM, gm⟩; clear gP gM gm; have hkc := hkc.tr k2; have ff : Fw w2 b G w.heap.size P M vm mod := ⟨g2, bb.kept k2, sm.kept k2⟩; have su := su.kept k2; have d0 := ff.b.h0; have d1 := ff.b.h1; have d2 := ff.b.h2; clear k2 g2 bb sm; have hcur := cur w2)
      | (go_at_call 15; (with_reducible refine (short_r _ [u] _ (sll_one _ _ _ _ _ su) false (.inr ⟨rfl, HS.out⟩)).mono ?_); rintro e w3 ⟨rfl, k3⟩; have hst := Kept.tr (kept_alloc _ _) k3; have hkc := hkc.tr hst; have ff := ff.kept hst; have su := su.kept hst; clear hst k3 hcur; have hcur := cur w3; have d0 := ff.b.h0; have d1 := ff.b.h1; have d2 := ff.b.h2))
    go_ret
    exact ⟨rfl, hkc⟩
  have HS := hid hs
  have nu : u.length ≤ 24 := hs _ (by simp)
  clear hs
  go_wp2_with (first
    | (go_at_call 14; (with_reducible refine (made5_yes P M vm mod _ sm HF.out).mono ?_); rintro e w2 ⟨b, G, rfl, g2, t, gP, gM, gm, k2⟩; have HO : Hid (Of G P M mod) := hid ⟨gP, gM, gm⟩; clear gP gM gm; have hkc := hkc.tr k2; have ff : Fw w2 b G w.heap.size P M vm mod := ⟨g2, bb.kept k2, sm.kept k2⟩; have su := su.kept k2; have d0 := ff.b.h0; have d1 := ff.b.h1; have d2 := ff.b.h2; clear k2 g2 bb sm; have hcur := cur w2)
    | (go_at_call 15; (with_reducible refine (short_r _ [u] _ (sll_one _ _ _ _ _ su) true (.inl ⟨rfl, HS.out⟩)).mono ?_); rintro e w3 ⟨rfl, k3⟩; have hst := Kept.tr (kept_alloc _ _) k3; have hkc := hkc.tr hst; have ff := ff.kept hst; have su := su.kept hst; clear hst k3 hcur; have hcur := cur w3; have d0 := ff.b.h0; have d1 := ff.b.h1; have d2 := ff.b.h2))
  refine (profile_any b G t _ u _ (ff.g.kept (by first | exact Kept.rfl' _ | exact kept_alloc _ _ | exact kept_drew _ | exact kept_drewN _ _ | exact (kept_drew _).drewN _)) (su.kept (by first | exact Kept.rfl' _ | exact kept_alloc _ _ | exact kept_drew _ | exact kept_drewN _ _ | exact (kept_drew _).drewN _)) (by omega)).mono ?_
  rintro e wx ⟨v3, l3, rfl, o3, kx, hp3⟩
  have hst := Kept.from hcur (by first | exact Kept.rfl' _ | exact kept_alloc _ _ | exact kept_drew _ | exact kept_drewN _ _ | exact (kept_drew _).drewN _) kx
  clear hcur kx
  have hcur := cur wx
  have hkc := hkc.tr hst
  have ff := ff.kept hst
  have su := su.kept hst
  (first | (have s3 := s3.kept hst) | skip)
  clear hst
  have d0 := ff.b.h0
  have d1 := ff.b.h1
  have d2 := ff.b.h2
  have s3 := o3.sl
  have H3 := hid hp3
  have e3 := hp3.1
  clear hp3 o3
  have z3 := s3
  obtain ⟨a3, cp3, rfl, ta3, ⟨tb3, _⟩, _⟩ := z3
  unfold maxLen at tb3
  have E3 := hid e3
  have z4 := s3
  obtain ⟨_, _, e4, _, _, hc3⟩ := z4
  cases e4
  obtain ⟨b3, off3, e4, hb3, hcell⟩ := hc3 (by intro e; rw [e] at e3; simp at e3)
  cases e4
  have r0 := hcell 0 (by omega)
  rw [H3.out.2 0 (by omega), Pl.cx_zero, Nat.add_zero] at r0
  have te : ((l3.length : Int) != (u.length : Int) + 1) = false := by rw [e3]; simp
  have tp : (0 : Int) < (l3.length : Int) := by omega
  have HC := hid hcell
  obtain ⟨wL, hwL⟩ : ∃ x, x = wx := ⟨_, rfl⟩
  subst hwL
  clear e3 hcell hc3
  go_wp2_with (fail)
  go_loopw [7] (fun vi wr => ∃ k : Nat, 1 ≤ k ∧ k ≤ l3.length ∧ vi = .int .i64 k ∧ Kept wL wr) (fun vi _ => l3.length - (intOf vi).toNat)
  case atStart => exact ⟨1, by omega, by omega, rfl, Kept.rfl' _⟩
  case round =>
    obtain ⟨k, hk1, hk, rfl, hkw⟩ := hrel
    by_cases hlt : k < l3.length
    case neg =>
      have hge : (l3.length : Int) ≤ (k : Int) := by omega
      clear hlt
      go_wp2_with (fail)
      go_ret
      exact ⟨rfl, hkc.tr hkw⟩
    obtain ⟨n, rfl⟩ : ∃ n, k = n + 1 := ⟨k - 1, by omega⟩
    have hkc := hkc.tr hkw
    have q1 := (Kept.cell' hkw hb3).trans (HC.out (n + 1) hlt)
    have q2 := (Kept.cell' hkw hb3).trans (HC.out n (by omega))
    rw [H3.out.2 (n + 1) (by have := E3.out; omega)] at q1
    rw [H3.out.2 n (by have := E3.out; omega)] at q2
    have hst := Pl.cx_step (t.po u) n
    have hsl := Pl.cx_len (t.po u) n
    obtain ⟨x, hx⟩ : ∃ x, x = Pl.cx (t.po u) (n + 1) := ⟨_, rfl⟩
    obtain ⟨y, hy⟩ : ∃ y, y = Pl.cx (t.po u) n := ⟨_, rfl⟩
    rw [← hx] at q1
    rw [← hy] at q2
    rw [← hx, ← hy] at hst
    rw [← hy] at hsl
    have i0 : (0 : Int) ≤ ((n + 1 : Nat) : Int) := by omega
    have i1 : ((n + 1 : Nat) : Int) < (l3.length : Int) := by omega
    have i2 : ((n + 1 : Nat) : Int) - 1 = (n : Int) := by omega
    have i3 : IntKind.i64.wrap (((n + 1 : Nat) : Int) - 1) = (n : Int) := by rw [IntWalk.i64_in _ (by have := E3.out; omega)]; omega
    have i4 : (0 : Int) ≤ (n : Int) := by omega
    have i5 : (n : Int) < (l3.length : Int) := by omega
    have i6 : (n : Int) + 1 < (l3.length : Int) := by omega
    have i7 : (n : Int) + 1 - 1 = (n : Int) := by omega
    have i8 : IntKind.i64.wrap ((n : Int) + 1 - 1) = (n : Int) := by rw [i7]; exact IntWalk.i64_in _ (by have := E3.out; omega)
    have i9 : ((n : Int) + 1).toNat = n + 1 := by omega
    have iA : (0 : Int) ≤ (n : Int) + 1 := by omega
    have hlen : l3.length ≤ 25 := by have := E3.out; omega
    have rel' : ∃ k : Nat, 1 ≤ k ∧ k ≤ l3.length ∧ ((n : Int) + 1 + 1) = (k : Int) := ⟨n + 2, by omega, by omega, by omega⟩
    clear hx hy
    by_cases hxy : x = y
    · subst hxy
      clear hst hlt hk hk1
      go_wp2_with (fail)
      go_quiet (fail)
      go_wp2_with (fail)
      go_roundw
      case rel => exact ⟨n + 2, by omega, by omega, by go_num, hkw.drewN _⟩
      case measure => simp [intOf]; omega
    · have hs1 : (x : Int) = (n : Int) + 1 - (y : Int) := by omega
      have hs2 : (y : Int) < (x : Int) := by omega
      have hs3 : IntKind.i64.wrap ((n : Int) + 1 - (y : Int)) = (x : Int) := by rw [IntWalk.i64_in _ (by omega)]; omega
      have hs4 : ((x : Int) != (y : Int)) = true := by simp; omega
      have hs5 : ((x : Int) == (y : Int)) = false := by simp; omega
      have HS1 := hid hs1
      clear hst hlt hk hk1 hs1 hxy
      go_wp2_with (fail)
      go_quiet (fail)
      go_wp2_with (fail)
      go_roundw
      case rel => exact ⟨n + 2, by omega, by omega, by go_num, hkw.drewN _⟩
      case measure => simp [intOf]; omega
end Go.Proofs.Ytmakdclgpeochaa
