/- The walk of the law LfsrGenerates. No conditions. -/
import Derived.Test.YtmakdclgpeochaaNe
import Derived.Test.YtmakdclgpeochaaNf
import Derived.Test.YtmakdclgpeochaaIb
namespace Go.Proofs.Ytmakdclgpeochaa
open Go.RowKit Cw

theorem regP_nat {G : GFd} (t : Tabs G) (c : List Int) (m : Nat) : RegP t c (m : Int) ↔ ((t.pl c).a 0 = 1 ∧ (t.pl c).ln ≤ m + 1) :=
  ⟨fun ⟨_, h1, h2⟩ => ⟨h1, by simpa using h2⟩, fun ⟨h1, h2⟩ => ⟨by omega, h1, by simpa using h2⟩⟩
theorem gen_holds {G : GFd} {t : Tabs G} {c f l : List Int} {n : Nat} (h : GenP t c f l n n) (h1 : (t.pl c).a 0 = 1) (h2 : (t.pl c).ln ≤ f.length + 1) : HoldsP t c (f.length : Int) l :=
  ⟨by omega, h1, by simpa using h2, fun j j1 j2 => h.gen j (by simpa using j1) (by rw [h.len] at j2; exact j2)⟩
set_option maxRecDepth 100000 in
set_option maxHeartbeats 4000000 in
theorem lfsrGenerates_law (P M : Int) (vm : Value) (mod : List Int) (vc vfs : Value) (c fs : List Int) (n : Int) (w : World) (hvm : Sl w vm mod) (hc : Sl w vc c) (hfs : Sl w vfs fs) (hn1 : -9223372036854775808 ≤ n) (hn2 : n ≤ 9223372036854775807) :
    Calls Try.prog 11 #[.agg #[.int .i64 P, .int .i64 M, vm], .agg #[vc, vfs], .int .i64 n] w fun e w' => e = .returned (.bool true) ∧ Kept w w' := by
  have hkc := kept_alloc w (.cells #[.int .i64 P, .int .i64 M, vm] 24)
  have bb := boxF_new w P M vm 24
  have sm := hvm.kept hkc
  have hkb := kept_alloc (w.alloc (.cells #[.int .i64 P, .int .i64 M, vm] 24)) (.cells #[vc, vfs] 36)
  have bx0 : Bx ((w.alloc (.cells #[.int .i64 P, .int .i64 M, vm] 24)).alloc (.cells #[vc, vfs] 36)) (w.heap.size + 1) 0 vc := ⟨by simp, by simp⟩
  have bx1 : Bx ((w.alloc (.cells #[.int .i64 P, .int .i64 M, vm] 24)).alloc (.cells #[vc, vfs] 36)) (w.heap.size + 1) 1 vfs := ⟨by simp, by simp⟩
  have bb := bb.kept hkb
  have sm := sm.kept hkb
  have hkc := hkc.tr hkb
  clear hkb
  have sc := hc.kept hkc
  obtain ⟨ac, capc, rfl, qc1, ⟨qc2, _⟩, _⟩ := hc
  unfold maxLen at qc2
  have sfs := hfs.kept hkc
  obtain ⟨afs, capfs, rfl, qfs1, ⟨qfs2, _⟩, _⟩ := hfs
  unfold maxLen at qfs2
  go_enter Try.func11, Try.ntmps11
  go_wp2_with (go_at_call 13; (with_reducible refine (alive5_any _).mono ?_); rintro e w1 ⟨rfl, ka⟩; have bb := bb.kept ka; have sm := sm.kept ka; have hkc := hkc.tr ka; have sc := sc.kept ka; have sfs := sfs.kept ka; have bx0 := bx0.kept ka; have bx1 := bx1.kept ka; have d0 := bb.h0; have d1 := bb.h1; have d2 := bb.h2; clear ka)
  by_cases hf : FieldP P M mod
  case neg =>
    have HF := hid hf
    clear hf
    go_wp2_with (go_at_call 14; (with_reducible refine (made5_no P M vm mod _ sm HF.out).mono ?_); rintro e w2 ⟨rfl, k2⟩; have bx0 := bx0.kept k2; have bc0 := bx0.h; have bx1 := bx1.kept k2; have bc1 := bx1.h)
    go_quiet (fail)
    go_wp2_with (fail)
    go_ret
    exact ⟨rfl, hkc.tr (k2.drewN _)⟩
  have HF := hid hf
  clear hf
  by_cases hs : Shrt [c, fs]
  case neg =>
    have HS := hid hs
    clear hs
    go_wp2_with (first
      | (go_at_call 14; (with_reducible refine (made5_yes P M vm mod _ sm HF.out).mono ?_); rintro e w2 ⟨b, G, rfl, g2, t, gP, gM, gm, k2⟩; have HO : Hid (Of G P M mod) := hid ⟨gP, gM, gm⟩; clear gP gM gm; have hkc := hkc.tr k2; have ff : Fw w2 b G w.heap.size P M vm mod := ⟨g2, bb.kept k2, sm.kept k2⟩; have sc := sc.kept k2; have sfs := sfs.kept k2; have bx0 := bx0.kept k2; have bx1 := bx1.kept k2; have bc0 := bx0.h; have bc1 := bx1.h; have d0 := ff.b.h0; have d1 := ff.b.h1; have d2 := ff.b.h2; clear k2 g2 bb sm; have hcur := cur w2))
    go_quiet (fail)
    clear bx0 bc0
    clear bx1 bc1
    go_wp2_with (first
      | (go_at_call 15; (with_reducible refine (short_r _ [c, fs] _ (sllb_two _ _ (drewN_sz _ _) _ _ _ _ _ _ _ (sc.kept (kept_drewN _ _)) (sfs.kept (kept_drewN _ _))) false (.inr ⟨rfl, HS.out⟩)).mono ?_); rintro e w3 ⟨rfl, k3⟩; have hst := Kept.tr (kept_drewN _ _) (Kept.tr (kept_alloc _ _) k3); have hkc := hkc.tr hst; have ff := ff.kept hst; have sc := sc.kept hst; have sfs := sfs.kept hst; clear hst k3 hcur; have hcur := cur w3; have d0 := ff.b.h0; have d1 := ff.b.h1; have d2 := ff.b.h2))
    go_ret
    exact ⟨rfl, hkc⟩
  have HS := hid hs
  have nc : c.length ≤ 24 := hs _ (by simp)
  have nfs : fs.length ≤ 24 := hs _ (by simp)
  clear hs
  go_wp2_with (first
    | (go_at_call 14; (with_reducible refine (made5_yes P M vm mod _ sm HF.out).mono ?_); rintro e w2 ⟨b, G, rfl, g2, t, gP, gM, gm, k2⟩; have HO : Hid (Of G P M mod) := hid ⟨gP, gM, gm⟩; clear gP gM gm; have hkc := hkc.tr k2; have ff : Fw w2 b G w.heap.size P M vm mod := ⟨g2, bb.kept k2, sm.kept k2⟩; have sc := sc.kept k2; have sfs := sfs.kept k2; have bx0 := bx0.kept k2; have bx1 := bx1.kept k2; have bc0 := bx0.h; have bc1 := bx1.h; have d0 := ff.b.h0; have d1 := ff.b.h1; have d2 := ff.b.h2; clear k2 g2 bb sm; have hcur := cur w2))
  go_quiet (fail)
  clear bx0 bc0
  clear bx1 bc1
  go_wp2_with (first
    | (go_at_call 15; (with_reducible refine (short_r _ [c, fs] _ (sllb_two _ _ (drewN_sz _ _) _ _ _ _ _ _ _ (sc.kept (kept_drewN _ _)) (sfs.kept (kept_drewN _ _))) true (.inl ⟨rfl, HS.out⟩)).mono ?_); rintro e w3 ⟨rfl, k3⟩; have hst := Kept.tr (kept_drewN _ _) (Kept.tr (kept_alloc _ _) k3); have hkc := hkc.tr hst; have ff := ff.kept hst; have sc := sc.kept hst; have sfs := sfs.kept hst; clear hst k3 hcur; have hcur := cur w3; have d0 := ff.b.h0; have d1 := ff.b.h1; have d2 := ff.b.h2))
  by_cases hR : (t.pl c).a 0 = 1 ∧ (t.pl c).ln ≤ fs.length + 1
  case neg =>
    have HR := hid hR
    have HF : Hid (BIf false (RegP t c (fs.length : Int))) := hid ⟨(fun h => by cases h), fun h => absurd ((regP_nat t c _).1 h) hR⟩
    clear hR
    go_wp2_with (first
      | (go_at_call 29; (with_reducible refine (generate_form b G t _ _ c fs n _ ff.g sc sfs (by omega) HR.out).mono ?_); rintro e wx ⟨rfl, kx⟩; have hst := Kept.from hcur (by first | exact Kept.rfl' _ | exact kept_alloc _ _ | exact kept_drew _ | exact kept_drewN _ _ | exact (kept_drew _).drewN _) kx; clear hcur kx; have hcur := cur wx; have hkc := hkc.tr hst; have ff := ff.kept hst; have sc := sc.kept hst; have sfs := sfs.kept hst; (first | (have s3 := s3.kept hst) | skip); (first | (have s4 := s4.kept hst) | skip); clear hst; have d0 := ff.b.h0; have d1 := ff.b.h1; have d2 := ff.b.h2)
      | (go_at_call 30; (with_reducible refine (rReg_r G t P M mod vm _ c fs.length false _ HO (ff.m.kept (by first | exact Kept.rfl' _ | exact kept_alloc _ _ | exact kept_drew _ | exact kept_drewN _ _ | exact (kept_drew _).drewN _)) (sc.kept (by first | exact Kept.rfl' _ | exact kept_alloc _ _ | exact kept_drew _ | exact kept_drewN _ _ | exact (kept_drew _).drewN _)) (by omega) HF.out).mono ?_); rintro e wx ⟨rfl, kx⟩; have hst := Kept.from hcur (by first | exact Kept.rfl' _ | exact kept_alloc _ _ | exact kept_drew _ | exact kept_drewN _ _ | exact (kept_drew _).drewN _) kx; clear hcur kx; have hcur := cur wx; have hkc := hkc.tr hst; have ff := ff.kept hst; have sc := sc.kept hst; have sfs := sfs.kept hst; (first | (have s3 := s3.kept hst) | skip); (first | (have s4 := s4.kept hst) | skip); clear hst; have d0 := ff.b.h0; have d1 := ff.b.h1; have d2 := ff.b.h2))
    go_ret
    exact ⟨ret_bool (by first | rfl | (simp; done) | (simp; omega)), hkc⟩
  have HR1 := hid hR.1
  have HR2 := hid hR.2
  have HF : Hid (BIf true (RegP t c (fs.length : Int))) := hid ⟨fun _ => (regP_nat t c _).2 hR, fun _ => rfl⟩
  clear hR
  by_cases hn : n < 0 ∨ 4096 < n
  · have HN := hid hn
    have hcs : n < 0 ∨ (0 ≤ n ∧ 4096 < n) := by omega
    clear hn
    go_wp2_with (first
      | (go_at_call 29; (with_reducible refine (generate_range b G t _ _ c fs n _ ff.g sc sfs (by omega) HR1.out HR2.out HN.out).mono ?_); rintro e wx ⟨rfl, kx⟩; have hst := Kept.from hcur (by first | exact Kept.rfl' _ | exact kept_alloc _ _ | exact kept_drew _ | exact kept_drewN _ _ | exact (kept_drew _).drewN _) kx; clear hcur kx; have hcur := cur wx; have hkc := hkc.tr hst; have ff := ff.kept hst; have sc := sc.kept hst; have sfs := sfs.kept hst; (first | (have s3 := s3.kept hst) | skip); (first | (have s4 := s4.kept hst) | skip); clear hst; have d0 := ff.b.h0; have d1 := ff.b.h1; have d2 := ff.b.h2))
    rcases hcs with g1 | ⟨g1, g2⟩
    all_goals
      go_wp2_with (first
        | (go_at_call 30; (with_reducible refine (rReg_r G t P M mod vm _ c fs.length true _ HO (ff.m.kept (by first | exact Kept.rfl' _ | exact kept_alloc _ _ | exact kept_drew _ | exact kept_drewN _ _ | exact (kept_drew _).drewN _)) (sc.kept (by first | exact Kept.rfl' _ | exact kept_alloc _ _ | exact kept_drew _ | exact kept_drewN _ _ | exact (kept_drew _).drewN _)) (by omega) HF.out).mono ?_); rintro e wx ⟨rfl, kx⟩; have hst := Kept.from hcur (by first | exact Kept.rfl' _ | exact kept_alloc _ _ | exact kept_drew _ | exact kept_drewN _ _ | exact (kept_drew _).drewN _) kx; clear hcur kx; have hcur := cur wx; have hkc := hkc.tr hst; have ff := ff.kept hst; have sc := sc.kept hst; have sfs := sfs.kept hst; (first | (have s3 := s3.kept hst) | skip); (first | (have s4 := s4.kept hst) | skip); clear hst; have d0 := ff.b.h0; have d1 := ff.b.h1; have d2 := ff.b.h2))
      go_ret
      exact ⟨ret_bool (by first | rfl | (simp; done) | (simp; omega)), hkc⟩
  obtain ⟨k, rfl⟩ := Int.eq_ofNat_of_zero_le (show 0 ≤ n by omega)
  have hk : k ≤ 4096 := by omega
  have k0 : (0 : Int) ≤ (k : Int) := by omega
  have k1 : (k : Int) ≤ 4096 := by omega
  clear hn
  refine (generate_any b G t _ _ c fs k _ ff.g sc sfs (by omega) HR1.out HR2.out hk).mono ?_
  rintro e wx ⟨v3, l3, rfl, o3, kx, hg3⟩
  have hst := Kept.from hcur (by first | exact Kept.rfl' _ | exact kept_alloc _ _ | exact kept_drew _ | exact kept_drewN _ _ | exact (kept_drew _).drewN _) kx
  clear hcur kx
  have hcur := cur wx
  have hkc := hkc.tr hst
  have ff := ff.kept hst
  have sc := sc.kept hst
  have sfs := sfs.kept hst
  (first | (have s3 := s3.kept hst) | skip)
  (first | (have s4 := s4.kept hst) | skip)
  clear hst
  have d0 := ff.b.h0
  have d1 := ff.b.h1
  have d2 := ff.b.h2
  have s3 := o3.sl
  have HG := hid hg3
  have e3 : Hid (l3.length = k) := hid hg3.len
  clear hg3 o3
  have z3 := s3
  obtain ⟨a3, cp3, rfl, ta3, ⟨tb3, _⟩, _⟩ := z3
  unfold maxLen at tb3
  by_cases hk1 : 100 < k
  · have g1 : (100 : Int) < (k : Int) := by omega
    have te : ((l3.length : Int) == (k : Int)) = true := by rw [e3.out]; simp
    clear hk1
    go_wp2_with (first
      | (go_at_call 30; (with_reducible refine (rReg_r G t P M mod vm _ c fs.length true _ HO (ff.m.kept (by first | exact Kept.rfl' _ | exact kept_alloc _ _ | exact kept_drew _ | exact kept_drewN _ _ | exact (kept_drew _).drewN _)) (sc.kept (by first | exact Kept.rfl' _ | exact kept_alloc _ _ | exact kept_drew _ | exact kept_drewN _ _ | exact (kept_drew _).drewN _)) (by omega) HF.out).mono ?_); rintro e wx ⟨rfl, kx⟩; have hst := Kept.from hcur (by first | exact Kept.rfl' _ | exact kept_alloc _ _ | exact kept_drew _ | exact kept_drewN _ _ | exact (kept_drew _).drewN _) kx; clear hcur kx; have hcur := cur wx; have hkc := hkc.tr hst; have ff := ff.kept hst; have sc := sc.kept hst; have sfs := sfs.kept hst; (first | (have s3 := s3.kept hst) | skip); (first | (have s4 := s4.kept hst) | skip); clear hst; have d0 := ff.b.h0; have d1 := ff.b.h1; have d2 := ff.b.h2))
    go_ret
    exact ⟨ret_bool (by first | rfl | (simp; done) | (simp; omega)), hkc⟩
  have g1 : (k : Int) ≤ 100 := by omega
  have n3 : l3.length ≤ 100 := by have := e3.out; omega
  have HH : Hid (BIf true (HoldsP t c (fs.length : Int) l3)) := hid ⟨fun _ => gen_holds HG.out HR1.out HR2.out, fun _ => rfl⟩
  clear hk1
  go_wp2_with (first
    | (go_at_call 30; (with_reducible refine (rReg_r G t P M mod vm _ c fs.length true _ HO (ff.m.kept (by first | exact Kept.rfl' _ | exact kept_alloc _ _ | exact kept_drew _ | exact kept_drewN _ _ | exact (kept_drew _).drewN _)) (sc.kept (by first | exact Kept.rfl' _ | exact kept_alloc _ _ | exact kept_drew _ | exact kept_drewN _ _ | exact (kept_drew _).drewN _)) (by omega) HF.out).mono ?_); rintro e wx ⟨rfl, kx⟩; have hst := Kept.from hcur (by first | exact Kept.rfl' _ | exact kept_alloc _ _ | exact kept_drew _ | exact kept_drewN _ _ | exact (kept_drew _).drewN _) kx; clear hcur kx; have hcur := cur wx; have hkc := hkc.tr hst; have ff := ff.kept hst; have sc := sc.kept hst; have sfs := sfs.kept hst; (first | (have s3 := s3.kept hst) | skip); (first | (have s4 := s4.kept hst) | skip); clear hst; have d0 := ff.b.h0; have d1 := ff.b.h1; have d2 := ff.b.h2)
    | (go_at_call 31; (with_reducible refine (rGenerate_p G t P M mod vm _ _ c fs k _ HO (ff.m.kept (by first | exact Kept.rfl' _ | exact kept_alloc _ _ | exact kept_drew _ | exact kept_drewN _ _ | exact (kept_drew _).drewN _)) (sc.kept (by first | exact Kept.rfl' _ | exact kept_alloc _ _ | exact kept_drew _ | exact kept_drewN _ _ | exact (kept_drew _).drewN _)) (sfs.kept (by first | exact Kept.rfl' _ | exact kept_alloc _ _ | exact kept_drew _ | exact kept_drewN _ _ | exact (kept_drew _).drewN _)) HR1.out HR2.out (by omega) hk).mono ?_); rintro e wx ⟨v4, l4, rfl, o4, kx, hg4⟩; have hst := Kept.from hcur (by first | exact Kept.rfl' _ | exact kept_alloc _ _ | exact kept_drew _ | exact kept_drewN _ _ | exact (kept_drew _).drewN _) kx; clear hcur kx; have hcur := cur wx; have hkc := hkc.tr hst; have ff := ff.kept hst; have sc := sc.kept hst; have sfs := sfs.kept hst; (first | (have s3 := s3.kept hst) | skip); (first | (have s4 := s4.kept hst) | skip); clear hst; have d0 := ff.b.h0; have d1 := ff.b.h1; have d2 := ff.b.h2; have s4 := o4.sl; have E4 : Hid (l3 = l4) := hid (gen_unique HG.out hg4 HR1.out); clear hg4 o4)
    | (go_at_call 19; (with_reducible refine (same_eq _ _ l3 l4 _ (s3.kept (by first | exact Kept.rfl' _ | exact kept_alloc _ _ | exact kept_drew _ | exact kept_drewN _ _ | exact (kept_drew _).drewN _)) (s4.kept (by first | exact Kept.rfl' _ | exact kept_alloc _ _ | exact kept_drew _ | exact kept_drewN _ _ | exact (kept_drew _).drewN _)) E4.out).mono ?_); rintro e wx ⟨rfl, kx⟩; have hst := Kept.from hcur (by first | exact Kept.rfl' _ | exact kept_alloc _ _ | exact kept_drew _ | exact kept_drewN _ _ | exact (kept_drew _).drewN _) kx; clear hcur kx; have hcur := cur wx; have hkc := hkc.tr hst; have ff := ff.kept hst; have sc := sc.kept hst; have sfs := sfs.kept hst; (first | (have s3 := s3.kept hst) | skip); (first | (have s4 := s4.kept hst) | skip); clear hst; have d0 := ff.b.h0; have d1 := ff.b.h1; have d2 := ff.b.h2)
    | (go_at_call 18; (with_reducible refine (rHolds_r G t P M mod vm _ _ c l3 fs.length true _ HO (ff.m.kept (by first | exact Kept.rfl' _ | exact kept_alloc _ _ | exact kept_drew _ | exact kept_drewN _ _ | exact (kept_drew _).drewN _)) (sc.kept (by first | exact Kept.rfl' _ | exact kept_alloc _ _ | exact kept_drew _ | exact kept_drewN _ _ | exact (kept_drew _).drewN _)) (s3.kept (by first | exact Kept.rfl' _ | exact kept_alloc _ _ | exact kept_drew _ | exact kept_drewN _ _ | exact (kept_drew _).drewN _)) (by omega) (by omega) HH.out).mono ?_); rintro e wx ⟨rfl, kx⟩; have hst := Kept.from hcur (by first | exact Kept.rfl' _ | exact kept_alloc _ _ | exact kept_drew _ | exact kept_drewN _ _ | exact (kept_drew _).drewN _) kx; clear hcur kx; have hcur := cur wx; have hkc := hkc.tr hst; have ff := ff.kept hst; have sc := sc.kept hst; have sfs := sfs.kept hst; (first | (have s3 := s3.kept hst) | skip); (first | (have s4 := s4.kept hst) | skip); clear hst; have d0 := ff.b.h0; have d1 := ff.b.h1; have d2 := ff.b.h2))
  go_ret
  exact ⟨ret_bool (by first | rfl | (simp; done) | (simp; omega)), hkc⟩
end Go.Proofs.Ytmakdclgpeochaa
