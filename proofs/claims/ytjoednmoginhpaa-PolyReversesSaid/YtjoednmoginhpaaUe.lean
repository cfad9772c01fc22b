/- The walk of the law PolyReverses. No conditions. -/
import Derived.Test.YtjoednmoginhpaaNd
import Derived.Test.YtjoednmoginhpaaQb
import Derived.Test.YtjoednmoginhpaaKi
namespace Go.Proofs.Ytjoednmoginhpaa
open Go.RowKit Cw

set_option maxRecDepth 100000 in
set_option maxHeartbeats 4000000 in
theorem polyReverses_law (P M : Int) (vm : Value) (mod : List Int) (vp : Value) (p : List Int) (n : Int) (w : World) (hvm : Sl w vm mod) (hp : Sl w vp p) (hn1 : -9223372036854775808 ≤ n) (hn2 : n ≤ 9223372036854775807) :
    Calls Try.prog 7 #[.agg #[.int .i64 P, .int .i64 M, vm], vp, .int .i64 n] w fun e w' => e = .returned (.bool true) ∧ Kept w w' := by
  have hkc := kept_alloc w (.cells #[.int .i64 P, .int .i64 M, vm] 24)
  have bb := boxF_new w P M vm 24
  have sm := hvm.kept hkc
  have sp := hp.kept hkc
  obtain ⟨ap, capp, rfl, qp1, ⟨qp2, _⟩, _⟩ := hp
  unfold maxLen at qp2
  go_enter Try.func7, Try.ntmps7
  go_wp2_with (go_at_call 20; (with_reducible refine (alive5_any _).mono ?_); rintro e w1 ⟨rfl, ka⟩; have bb := bb.kept ka; have sm := sm.kept ka; have hkc := hkc.tr ka; have sp := sp.kept ka; have d0 := bb.h0; have d1 := bb.h1; have d2 := bb.h2; clear ka)
  by_cases hf : FieldP P M mod
  case neg =>
    have HF := hid hf
    clear hf
    go_wp2_with (go_at_call 21; (with_reducible refine (made5_no P M vm mod _ sm HF.out).mono ?_); rintro e w2 ⟨rfl, k2⟩)
    go_ret
    exact ⟨rfl, hkc.tr k2⟩
  have HF := hid hf
  clear hf
  by_cases hs : Shrt [p]
  case neg =>
    have HS := hid hs
    clear hs
    go_wp2_with (first
      | (go_at_call 21; (with_reducible refine (made5_yes P M vm mod _ sm HF.out).mono ?_); rintro e w2 ⟨b, G, rfl, g2, t, gP, gM, gm, k2⟩; have HO : Hid (Of G P M mod) := hid ⟨gP, gM, gm⟩; clear gP gM gm; have hkc := hkc.tr k2; have ff : Fw w2 b G w.heap.size P M vm mod := ⟨g2, bb.kept k2, sm.kept k2⟩; have sp := sp.kept k2; have d0 := ff.b.h0; have d1 := ff.b.h1; have d2 := ff.b.h2; clear k2 g2 bb sm; have hcur := cur w2)
      | (go_at_call 22; (with_reducible refine (short_r _ [p] _ (sll_one _ _ _ _ _ sp) false (.inr ⟨rfl, HS.out⟩)).mono ?_); rintro e w3 ⟨rfl, k3⟩; have hst := Kept.tr (kept_alloc _ _) k3; have hkc := hkc.tr hst; have ff := ff.kept hst; have sp := sp.kept hst; clear hst k3 hcur; have hcur := cur w3; have d0 := ff.b.h0; have d1 := ff.b.h1; have d2 := ff.b.h2))
    go_ret
    exact ⟨rfl, hkc⟩
  have HS := hid hs
  have np : p.length ≤ 24 := hs _ (by simp)
  clear hs
  go_wp2_with (first
    | (go_at_call 21; (with_reducible refine (made5_yes P M vm mod _ sm HF.out).mono ?_); rintro e w2 ⟨b, G, rfl, g2, t, gP, gM, gm, k2⟩; have HO : Hid (Of G P M mod) := hid ⟨gP, gM, gm⟩; clear gP gM gm; have hkc := hkc.tr k2; have ff : Fw w2 b G w.heap.size P M vm mod := ⟨g2, bb.kept k2, sm.kept k2⟩; have sp := sp.kept k2; have d0 := ff.b.h0; have d1 := ff.b.h1; have d2 := ff.b.h2; clear k2 g2 bb sm; have hcur := cur w2)
    | (go_at_call 22; (with_reducible refine (short_r _ [p] _ (sll_one _ _ _ _ _ sp) true (.inl ⟨rfl, HS.out⟩)).mono ?_); rintro e w3 ⟨rfl, k3⟩; have hst := Kept.tr (kept_alloc _ _) k3; have hkc := hkc.tr hst; have ff := ff.kept hst; have sp := sp.kept hst; clear hst k3 hcur; have hcur := cur w3; have d0 := ff.b.h0; have d1 := ff.b.h1; have d2 := ff.b.h2))
  by_cases hn : n < 0 ∨ 4096 < n ∨ n + 1 < (t.pl p).ln
  · have HN := hid hn
    by_cases h0 : n < 0
    · clear hn
      go_wp2_with (first
        | (go_at_call 35; (with_reducible refine (reverse_no b G t _ p n _ ff.g sp (by omega) HN.out hn2).mono ?_); rintro e wx ⟨rfl, kx⟩; have hst := Kept.from hcur (by first | exact Kept.rfl' _ | exact kept_alloc _ _ | exact kept_drew _ | exact kept_drewN _ _ | exact (kept_drew _).drewN _) kx; clear hcur kx; have hcur := cur wx; have hkc := hkc.tr hst; (first | (have hkw' := hkw'.tr hst) | skip); have ff := ff.kept hst; have sp := sp.kept hst; (first | (have s3 := s3.kept hst) | skip); (first | (have s4 := s4.kept hst) | skip); (first | (have s5 := s5.kept hst) | skip); (first | (have s6 := s6.kept hst) | skip); clear hst; have d0 := ff.b.h0; have d1 := ff.b.h1; have d2 := ff.b.h2))
      go_ret
      exact ⟨ret_bool (by simp), hkc⟩
    have h0' : 0 ≤ n := by omega
    by_cases h1 : 4096 < n
    · clear hn h0
      go_wp2_with (first
        | (go_at_call 35; (with_reducible refine (reverse_no b G t _ p n _ ff.g sp (by omega) HN.out hn2).mono ?_); rintro e wx ⟨rfl, kx⟩; have hst := Kept.from hcur (by first | exact Kept.rfl' _ | exact kept_alloc _ _ | exact kept_drew _ | exact kept_drewN _ _ | exact (kept_drew _).drewN _) kx; clear hcur kx; have hcur := cur wx; have hkc := hkc.tr hst; (first | (have hkw' := hkw'.tr hst) | skip); have ff := ff.kept hst; have sp := sp.kept hst; (first | (have s3 := s3.kept hst) | skip); (first | (have s4 := s4.kept hst) | skip); (first | (have s5 := s5.kept hst) | skip); (first | (have s6 := s6.kept hst) | skip); clear hst; have d0 := ff.b.h0; have d1 := ff.b.h1; have d2 := ff.b.h2))
      go_ret
      exact ⟨ret_bool (by simp), hkc⟩
    have h1' : n ≤ 4096 := by omega
    have h2 : n < ((t.pl p).ln : Int) - 1 := by omega
    clear hn h0 h1
    go_wp2_with (first
      | (go_at_call 35; (with_reducible refine (reverse_no b G t _ p n _ ff.g sp (by omega) HN.out hn2).mono ?_); rintro e wx ⟨rfl, kx⟩; have hst := Kept.from hcur (by first | exact Kept.rfl' _ | exact kept_alloc _ _ | exact kept_drew _ | exact kept_drewN _ _ | exact (kept_drew _).drewN _) kx; clear hcur kx; have hcur := cur wx; have hkc := hkc.tr hst; (first | (have hkw' := hkw'.tr hst) | skip); have ff := ff.kept hst; have sp := sp.kept hst; (first | (have s3 := s3.kept hst) | skip); (first | (have s4 := s4.kept hst) | skip); (first | (have s5 := s5.kept hst) | skip); (first | (have s6 := s6.kept hst) | skip); clear hst; have d0 := ff.b.h0; have d1 := ff.b.h1; have d2 := ff.b.h2)
      | (go_at_call 24; (with_reducible refine (rDegree_p G t P M mod vm _ p _ HO sp (by omega)).mono ?_); rintro e wx ⟨rfl, kx⟩; have hst := Kept.from hcur (by first | exact Kept.rfl' _ | exact kept_alloc _ _ | exact kept_drew _ | exact kept_drewN _ _ | exact (kept_drew _).drewN _) kx; clear hcur kx; have hcur := cur wx; have hkc := hkc.tr hst; (first | (have hkw' := hkw'.tr hst) | skip); have ff := ff.kept hst; have sp := sp.kept hst; (first | (have s3 := s3.kept hst) | skip); (first | (have s4 := s4.kept hst) | skip); (first | (have s5 := s5.kept hst) | skip); (first | (have s6 := s6.kept hst) | skip); clear hst; have d0 := ff.b.h0; have d1 := ff.b.h1; have d2 := ff.b.h2))
    go_ret
    exact ⟨ret_bool (by simp), hkc⟩
  obtain ⟨m, rfl⟩ := Int.eq_ofNat_of_zero_le (show 0 ≤ n by omega)
  have m1 : (m : Int) ≤ 4096 := by omega
  have m2 : m ≤ 4096 := by omega
  have m0 : (0 : Int) ≤ (m : Int) := by omega
  have m3 : (t.pl p).ln ≤ m + 1 := by omega
  have m4 : ((t.pl p).ln : Int) - 1 ≤ (m : Int) := by omega
  clear hn
  go_wp2_with (first
    | (go_at_call 35; (with_reducible refine (reverse_p b G t _ p m _ ff.g sp (by omega) m2 m3).mono ?_); rintro e wx ⟨v3, l3, rfl, o3, kx, c3, p3⟩; have hst := Kept.from hcur (by first | exact Kept.rfl' _ | exact kept_alloc _ _ | exact kept_drew _ | exact kept_drewN _ _ | exact (kept_drew _).drewN _) kx; clear hcur kx; have hcur := cur wx; have hkc := hkc.tr hst; (first | (have hkw' := hkw'.tr hst) | skip); have ff := ff.kept hst; have sp := sp.kept hst; (first | (have s3 := s3.kept hst) | skip); (first | (have s4 := s4.kept hst) | skip); (first | (have s5 := s5.kept hst) | skip); (first | (have s6 := s6.kept hst) | skip); clear hst; have d0 := ff.b.h0; have d1 := ff.b.h1; have d2 := ff.b.h2; have s3 := o3.sl; have P3 := hid p3; clear p3 o3; have z3 := s3; obtain ⟨a3, cp3, rfl, ta3, ⟨tb3, _⟩, hc3⟩ := z3; unfold maxLen at tb3; have n3 : l3.length ≤ m + 1 := (by have := t.can_ln' c3 P3.out; have := Pl.rv_ln m (t.pl p); omega); have n3' : (l3.length : Int) ≤ (m : Int) + 1 := (by omega))
    | (go_at_call 24; (with_reducible refine (rDegree_p G t P M mod vm _ p _ HO sp (by omega)).mono ?_); rintro e wx ⟨rfl, kx⟩; have hst := Kept.from hcur (by first | exact Kept.rfl' _ | exact kept_alloc _ _ | exact kept_drew _ | exact kept_drewN _ _ | exact (kept_drew _).drewN _) kx; clear hcur kx; have hcur := cur wx; have hkc := hkc.tr hst; (first | (have hkw' := hkw'.tr hst) | skip); have ff := ff.kept hst; have sp := sp.kept hst; (first | (have s3 := s3.kept hst) | skip); (first | (have s4 := s4.kept hst) | skip); (first | (have s5 := s5.kept hst) | skip); (first | (have s6 := s6.kept hst) | skip); clear hst; have d0 := ff.b.h0; have d1 := ff.b.h1; have d2 := ff.b.h2)
    | (go_at_call 28; (with_reducible refine (rCanon_p G t P M mod vm _ l3 _ HO (s3.kept (by first | exact Kept.rfl' _ | exact kept_alloc _ _ | exact kept_drew _ | exact kept_drewN _ _ | exact (kept_drew _).drewN _)) (by omega)).mono ?_); rintro e wx ⟨v4, l4, rfl, o4, kx, c4, p4⟩; have hst := Kept.from hcur (by first | exact Kept.rfl' _ | exact kept_alloc _ _ | exact kept_drew _ | exact kept_drewN _ _ | exact (kept_drew _).drewN _) kx; clear hcur kx; have hcur := cur wx; have hkc := hkc.tr hst; (first | (have hkw' := hkw'.tr hst) | skip); have ff := ff.kept hst; have sp := sp.kept hst; (first | (have s3 := s3.kept hst) | skip); (first | (have s4 := s4.kept hst) | skip); (first | (have s5 := s5.kept hst) | skip); (first | (have s6 := s6.kept hst) | skip); clear hst; have d0 := ff.b.h0; have d1 := ff.b.h1; have d2 := ff.b.h2; have s4 := o4.sl; have P4 := hid p4; clear p4 o4)
    | (go_at_call 27; (with_reducible refine (same_eq _ _ l3 l4 _ (s3.kept (by first | exact Kept.rfl' _ | exact kept_alloc _ _ | exact kept_drew _ | exact kept_drewN _ _ | exact (kept_drew _).drewN _)) (s4.kept (by first | exact Kept.rfl' _ | exact kept_alloc _ _ | exact kept_drew _ | exact kept_drewN _ _ | exact (kept_drew _).drewN _)) (t.pl_inj c3 c4 P4.out.symm)).mono ?_); rintro e wx ⟨rfl, kx⟩; have hst := Kept.from hcur (by first | exact Kept.rfl' _ | exact kept_alloc _ _ | exact kept_drew _ | exact kept_drewN _ _ | exact (kept_drew _).drewN _) kx; clear hcur kx; have hcur := cur wx; have hkc := hkc.tr hst; (first | (have hkw' := hkw'.tr hst) | skip); have ff := ff.kept hst; have sp := sp.kept hst; (first | (have s3 := s3.kept hst) | skip); (first | (have s4 := s4.kept hst) | skip); (first | (have s5 := s5.kept hst) | skip); (first | (have s6 := s6.kept hst) | skip); clear hst; have d0 := ff.b.h0; have d1 := ff.b.h1; have d2 := ff.b.h2))
  obtain ⟨wL, hwL⟩ : ∃ x, x = wx := ⟨_, rfl⟩
  subst hwL
  go_loopw [10] (fun vi wr => ∃ k : Nat, k ≤ m + 1 ∧ vi = .int .i64 k ∧ Kept wL wr) (fun vi _ => m + 1 - (intOf vi).toNat)
  case atStart => exact ⟨0, by omega, rfl, Kept.rfl' _⟩
  case round =>
    obtain ⟨k, hk, rfl, hkw⟩ := hrel
    have ff := ff.kept hkw
    have sp := sp.kept hkw
    have s3 := s3.kept hkw
    have hkc := hkc.tr hkw
    have d0 := ff.b.h0
    have d1 := ff.b.h1
    have d2 := ff.b.h2
    clear hcur
    have hcur := cur wr
    have hkw' := hkw
    by_cases hkm : k < m + 1
    · obtain ⟨j, hj⟩ : ∃ j, m = k + j := ⟨m - k, by omega⟩
      obtain ⟨x, hx⟩ : ∃ x, x = inn G.q (l3.getD k 0) := ⟨_, rfl⟩
      have HX : Hid (inn G.q (l3.getD k 0) = x) := hid hx.symm
      have HY : Hid (inn G.q (p.getD j 0) = x) := hid (by
        rw [hx]
        refine t.e_inj ?_
        have h := congrArg (fun P : Pl _ => P.a k) P3.out
        simp only [Pl.rv_at] at h
        rw [if_pos (by omega), show m - k = j by omega] at h
        exact h.symm)
      have k0 : (0 : Int) ≤ (k : Int) := by omega
      have k1 : (k : Int) ≤ (m : Int) := by omega
      have kk : k ≤ 1000000 := by omega
      have jj : j ≤ 1000000 := by omega
      have ej : (m : Int) - (k : Int) = (j : Int) := by omega
      have ew : IntKind.i64.wrap (j : Int) = (j : Int) := IntWalk.i64_in _ (by omega)
      have ew2 : IntKind.i64.wrap ((m : Int) - (k : Int)) = (j : Int) := by rw [ej, ew]
      have HJ := hid hj
      clear hj hx hkm
      go_wp2_with (fail)
      go_region_held3 (fun w' => w'.cell? ⟨w.heap.size, 0, none⟩ = some (.int .i64 P) ∧ w'.cell? ⟨w.heap.size, 1, none⟩ = some (.int .i64 M) ∧ w'.cell? ⟨w.heap.size, 2, none⟩ = some vm) (first | (simp [go_sem]; done) | (simp [*]; done))
        (first
          | (go_at_call 36; (with_reducible refine (rAt_p G t P M mod vm _ l3 k _ HO (s3.kept (by first | exact Kept.rfl' _ | exact kept_alloc _ _ | exact kept_drew _ | exact kept_drewN _ _ | exact (kept_drew _).drewN _)) kk).mono ?_); rintro e wx ⟨rfl, kx⟩; have hst := Kept.from hcur (by first | exact Kept.rfl' _ | exact kept_alloc _ _ | exact kept_drew _ | exact kept_drewN _ _ | exact (kept_drew _).drewN _) kx; clear hcur kx; have hcur := cur wx; have hkc := hkc.tr hst; (first | (have hkw' := hkw'.tr hst) | skip); have ff := ff.kept hst; have sp := sp.kept hst; (first | (have s3 := s3.kept hst) | skip); (first | (have s4 := s4.kept hst) | skip); (first | (have s5 := s5.kept hst) | skip); (first | (have s6 := s6.kept hst) | skip); clear hst; have d0 := ff.b.h0; have d1 := ff.b.h1; have d2 := ff.b.h2; rw [HX.out])
          | (go_at_call 36; (with_reducible refine (rAt_p G t P M mod vm _ p j _ HO (sp.kept (by first | exact Kept.rfl' _ | exact kept_alloc _ _ | exact kept_drew _ | exact kept_drewN _ _ | exact (kept_drew _).drewN _)) jj).mono ?_); rintro e wx ⟨rfl, kx⟩; have hst := Kept.from hcur (by first | exact Kept.rfl' _ | exact kept_alloc _ _ | exact kept_drew _ | exact kept_drewN _ _ | exact (kept_drew _).drewN _) kx; clear hcur kx; have hcur := cur wx; have hkc := hkc.tr hst; (first | (have hkw' := hkw'.tr hst) | skip); have ff := ff.kept hst; have sp := sp.kept hst; (first | (have s3 := s3.kept hst) | skip); (first | (have s4 := s4.kept hst) | skip); (first | (have s5 := s5.kept hst) | skip); (first | (have s6 := s6.kept hst) | skip); clear hst; have d0 := ff.b.h0; have d1 := ff.b.h1; have d2 := ff.b.h2; rw [HY.out]))
      all_goals
        clear ew ew2 ej
        go_wp2_with (fail)
        go_roundw
        case rel =>
          first | exact ⟨k + 1, by have := HJ.out; omega, by go_num, hkw'⟩ | exact ⟨k + 1, by have := HJ.out; omega, by go_num, (hkw').drewN _⟩
        case measure => have := HJ.out; simp [intOf]; omega
    · have hge : (m : Int) < (k : Int) := by omega
      clear hkm
      go_wp2_with (first
        | (go_at_call 35; (with_reducible refine (reverse_p b G t _ l3 m _ ff.g s3 (by omega) m2 (by have := t.pl_ln_le l3; omega)).mono ?_); rintro e wx ⟨v5, l5, rfl, o5, kx, c5, p5⟩; have hst := Kept.from hcur (by first | exact Kept.rfl' _ | exact kept_alloc _ _ | exact kept_drew _ | exact kept_drewN _ _ | exact (kept_drew _).drewN _) kx; clear hcur kx; have hcur := cur wx; have hkc := hkc.tr hst; have ff := ff.kept hst; have sp := sp.kept hst; (first | (have s3 := s3.kept hst) | skip); (first | (have s5 := s5.kept hst) | skip); (first | (have s6 := s6.kept hst) | skip); clear hst; have d0 := ff.b.h0; have d1 := ff.b.h1; have d2 := ff.b.h2; have s5 := o5.sl; have P5 := hid p5; clear p5 o5)
        | (go_at_call 28; (with_reducible refine (rCanon_p G t P M mod vm _ p _ HO (sp.kept (by first | exact Kept.rfl' _ | exact kept_alloc _ _ | exact kept_drew _ | exact kept_drewN _ _ | exact (kept_drew _).drewN _)) (by omega)).mono ?_); rintro e wx ⟨v6, l6, rfl, o6, kx, c6, p6⟩; have hst := Kept.from hcur (by first | exact Kept.rfl' _ | exact kept_alloc _ _ | exact kept_drew _ | exact kept_drewN _ _ | exact (kept_drew _).drewN _) kx; clear hcur kx; have hcur := cur wx; have hkc := hkc.tr hst; have ff := ff.kept hst; have sp := sp.kept hst; (first | (have s3 := s3.kept hst) | skip); (first | (have s5 := s5.kept hst) | skip); (first | (have s6 := s6.kept hst) | skip); clear hst; have d0 := ff.b.h0; have d1 := ff.b.h1; have d2 := ff.b.h2; have s6 := o6.sl; have P6 := hid p6; clear p6 o6)
        | (go_at_call 27; (with_reducible refine (same_eq _ _ l5 l6 _ (s5.kept (by first | exact Kept.rfl' _ | exact kept_alloc _ _ | exact kept_drew _ | exact kept_drewN _ _ | exact (kept_drew _).drewN _)) (s6.kept (by first | exact Kept.rfl' _ | exact kept_alloc _ _ | exact kept_drew _ | exact kept_drewN _ _ | exact (kept_drew _).drewN _)) (t.pl_inj c5 c6 (by rw [P5.out, P6.out, P3.out, Pl.rv_rv m3]))).mono ?_); rintro e wx ⟨rfl, kx⟩; have hst := Kept.from hcur (by first | exact Kept.rfl' _ | exact kept_alloc _ _ | exact kept_drew _ | exact kept_drewN _ _ | exact (kept_drew _).drewN _) kx; clear hcur kx; have hcur := cur wx; have hkc := hkc.tr hst; have ff := ff.kept hst; have sp := sp.kept hst; (first | (have s3 := s3.kept hst) | skip); (first | (have s5 := s5.kept hst) | skip); (first | (have s6 := s6.kept hst) | skip); clear hst; have d0 := ff.b.h0; have d1 := ff.b.h1; have d2 := ff.b.h2))
      go_ret
      exact ⟨ret_bool (by simp), hkc⟩
end Go.Proofs.Ytjoednmoginhpaa
