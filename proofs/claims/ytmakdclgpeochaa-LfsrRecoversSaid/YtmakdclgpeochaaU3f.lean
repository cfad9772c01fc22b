/- The walk of the law LfsrRecovers. No conditions. -/
import Derived.Test.YtmakdclgpeochaaNe
import Derived.Test.YtmakdclgpeochaaNf
import Derived.Test.YtmakdclgpeochaaIb
namespace Go.Proofs.Ytmakdclgpeochaa
open Go.RowKit Cw

theorem regP_nat {G : GFd} (t : Tabs G) (c : List Int) (m : Nat) : RegP t c (m : Int) ↔ ((t.pl c).a 0 = 1 ∧ (t.pl c).ln ≤ m + 1) :=
  ⟨fun ⟨_, h1, h2⟩ => ⟨h1, by simpa using h2⟩, fun ⟨h1, h2⟩ => ⟨by omega, h1, by simpa using h2⟩⟩
theorem gen_holds {G : GFd} {t : Tabs G} {c f l : List Int} {n : Nat} (h : GenP t c f l n n) (h1 : (t.pl c).a 0 = 1) (h2 : (t.pl c).ln ≤ f.length + 1) : HoldsP t c (f.length : Int) l :=
  ⟨by omega, h1, by simpa using h2, fun j j1 j2 => h.gen j (by simpa using j1) (by rw [h.len] at j2; exact j2)⟩
theorem sl_take {w : World} {a : Option Addr} {n cap k : Nat} {l : List Int} (h : Sl w (.slice a n cap) l) (hk : k ≤ l.length) : Sl w (.slice a k cap) (l.take k) := by
  obtain ⟨_, _, e, h1, h2, hc⟩ := h
  cases e
  have hl : (l.take k).length = k := by rw [List.length_take]; omega
  refine ⟨_, _, by rw [hl], by omega, h2, fun hne => ?_⟩
  have hl0 : l ≠ [] := fun e => hne (by rw [e]; simp)
  obtain ⟨b, off, rfl, hb, hcell⟩ := hc hl0
  refine ⟨b, off, rfl, hb, fun i hi => ?_⟩
  rw [hl] at hi
  rw [hcell i (by omega)]
  simp [List.getD, hi]
theorem po_take_low {G : GFd} (t : Tabs G) (l : List Int) (k : Nat) : ∀ i, i < k → t.po (l.take k) i = t.po l i := fun i hi => by
  show t.e ((l.take k).getD i 0) = t.e (l.getD i 0)
  simp [List.getD, hi]
/-- A register that generates the beginning generates all. -/
theorem recover {G : GFd} {t : Tabs G} {c f l lc : List Int} {n N m : Nat} {old : Pl (Rs t.fs.mon)} {bb : Rs t.fs.mon} {since : Nat} (h : GenP t c f l N N) (h1 : (t.pl c).a 0 = 1) (h2 : (t.pl c).ln ≤ f.length + 1) (hn : n = 2 * f.length) (hN : n ≤ N)
    (hb : Pl.BM (t.po (l.take n)) (t.pl lc) old bb m since (l.take n).length) : m ≤ f.length ∧ (t.pl lc).a 0 = 1 ∧ (t.pl lc).ln ≤ (l.take m).length + 1 ∧ (l.take m).length = m ∧ GenP t lc (l.take m) l N N := by
  have hl : (l.take n).length = n := by rw [List.length_take, h.len]; omega
  rw [hl] at hb
  have r1 : Pl.Reg (t.pl c) f.length (t.po l) N := ⟨h1, h2, fun j j1 j2 => h.gen j j1 j2⟩
  have r2 := Pl.reg_congr (fun i hi => (po_take_low t l n i hi).symm) (r1.mono hN)
  have hm := hb.least _ _ r2
  have r3 : Pl.Reg (t.pl lc) m (t.po l) n := Pl.reg_congr (fun i hi => po_take_low t l n i hi) hb.reg
  have r4 : Pl.Reg (t.pl lc) m (t.po l) N := Pl.reg_all r3 r1 (by omega)
  have hlm : (l.take m).length = m := by rw [List.length_take, h.len]; omega
  refine ⟨hm, r4.one, by rw [hlm]; exact r4.len, hlm, h.len, h.bd, fun i i1 i2 => ?_, fun i i1 i2 => ?_, h.zer⟩
  · rw [hlm] at i1
    rw [inn_yes (by have := h.bd i; simp [List.getD, i1] at this ⊢; exact this)]
    simp [List.getD, i1]
  · rw [hlm] at i1
    exact r4.gen i i1 i2
set_option maxRecDepth 100000 in
set_option maxHeartbeats 4000000 in
theorem lfsrRecovers_law (P M : Int) (vm : Value) (mod : List Int) (vc vfs : Value) (c fs : List Int) (n : Int) (w : World) (hvm : Sl w vm mod) (hc : Sl w vc c) (hfs : Sl w vfs fs) (hn1 : -9223372036854775808 ≤ n) (hn2 : n ≤ 9223372036854775807) :
    Calls Try.prog 12 #[.agg #[.int .i64 P, .int .i64 M, vm], .agg #[vc, vfs], .int .i64 n] w fun e w' => e = .returned (.bool true) ∧ Kept w w' := by
  have hkc := kept_alloc w (.cells #[.int .i64 P, .int .i64 M, vm] 24)
  have bb := boxF_new w P M vm 24
  have sm := hvm.kept hkc
  have hkb := kept_alloc (w.alloc (.cells #[.int .i64 P, .int .i64 M, vm] 24)) (.cells #[vc, vfs] 36)
  have bx0 : Bx ((w.alloc (.cells #[.int .i64 P, .int .i64 M, vm] 24)).alloc (.cells #[vc, vfs] 36)) (w.heap.size + 1) 0 vc := ⟨by simp, by simp⟩
  have bx1 : Bx ((w.alloc (.cells #[.int .i64 P, .int .i64 M, vm] 24)).alloc (.cells #[vc, vfs] 36)) (w.heap.size + 1) 1 vfs := ⟨by simp, by simp⟩
  have bb := bb.kept hkb
  have sm := sm.kept hkb
  have hkc := hkc.tr hkb
  clear hkb
  have sc := hc.kept hkc
  obtain ⟨ac, capc, rfl, qc1, ⟨qc2, _⟩, _⟩ := hc
  unfold maxLen at qc2
  have sfs := hfs.kept hkc
  obtain ⟨afs, capfs, rfl, qfs1, ⟨qfs2, _⟩, _⟩ := hfs
  unfold maxLen at qfs2
  go_enter Try.func12, Try.ntmps12
  go_wp2_with (go_at_call 13; (with_reducible refine (alive5_any _).mono ?_); rintro e w1 ⟨rfl, ka⟩; have bb := bb.kept ka; have sm := sm.kept ka; have hkc := hkc.tr ka; have sc := sc.kept ka; have sfs := sfs.kept ka; have bx0 := bx0.kept ka; have bx1 := bx1.kept ka; have d0 := bb.h0; have d1 := bb.h1; have d2 := bb.h2; clear ka)
  by_cases hf : FieldP P M mod
  case neg =>
    have HF := hid hf
    clear hf
    go_wp2_with (go_at_call 14; (with_reducible refine (made5_no P M vm mod _ sm HF.out).mono ?_); rintro e w2 ⟨rfl, k2⟩; have bx0 := bx0.kept k2; have bc0 := bx0.h; have bx1 := bx1.kept k2; have bc1 := bx1.h)
    go_quiet (fail)
    go_wp2_with (fail)
    go_ret
    exact ⟨rfl, hkc.tr (k2.drewN _)⟩
  have HF := hid hf
  clear hf
  go_wp2_with (first
    | (go_at_call 14; (with_reducible refine (made5_yes P M vm mod _ sm HF.out).mono ?_); rintro e w2 ⟨b, G, rfl, g2, t, gP, gM, gm, k2⟩; have HO : Hid (Of G P M mod) := hid ⟨gP, gM, gm⟩; clear gP gM gm; have hkc := hkc.tr k2; have ff : Fw w2 b G w.heap.size P M vm mod := ⟨g2, bb.kept k2, sm.kept k2⟩; have sc := sc.kept k2; have sfs := sfs.kept k2; have bx0 := bx0.kept k2; have bx1 := bx1.kept k2; have bc0 := bx0.h; have bc1 := bx1.h; have d0 := ff.b.h0; have d1 := ff.b.h1; have d2 := ff.b.h2; clear k2 g2 bb sm; have hcur := cur w2))
  go_quiet (fail)
  clear bx0 bc0
  clear bx1 bc1
  by_cases h1 : 8 < fs.length
  · have H1 : (8 : Int) < (fs.length : Int) := by omega
    clear h1
    go_wp2_with (fail)
    go_ret
    exact ⟨rfl, hkc.drewN _⟩
  have H1 : (fs.length : Int) ≤ 8 := by omega
  have nfs : fs.length ≤ 8 := by omega
  clear h1
  by_cases h2 : 9 < c.length
  · have H2 : (9 : Int) < (c.length : Int) := by omega
    clear h2
    go_wp2_with (fail)
    go_ret
    exact ⟨rfl, hkc.drewN _⟩
  have H2 : (c.length : Int) ≤ 9 := by omega
  have nc : c.length ≤ 9 := by omega
  clear h2
  by_cases hR : (t.pl c).a 0 = 1 ∧ (t.pl c).ln ≤ fs.length + 1
  case neg =>
    have HF : Hid (BIf false (RegP t c (fs.length : Int))) := hid ⟨(fun h => by cases h), fun h => absurd ((regP_nat t c _).1 h) hR⟩
    clear hR
    go_wp2_with (first
      | (go_at_call 30; (with_reducible refine (rReg_r G t P M mod vm _ c fs.length false _ HO (ff.m.kept (by first | exact Kept.rfl' _ | exact kept_alloc _ _ | exact kept_drew _ | exact kept_drewN _ _ | exact (kept_drew _).drewN _)) (sc.kept (by first | exact Kept.rfl' _ | exact kept_alloc _ _ | exact kept_drew _ | exact kept_drewN _ _ | exact (kept_drew _).drewN _)) (by omega) HF.out).mono ?_); rintro e wx ⟨rfl, kx⟩; have hst := Kept.from hcur (by first | exact Kept.rfl' _ | exact kept_alloc _ _ | exact kept_drew _ | exact kept_drewN _ _ | exact (kept_drew _).drewN _) kx; clear hcur kx; have hcur := cur wx; have hkc := hkc.tr hst; have ff := ff.kept hst; have sc := sc.kept hst; have sfs := sfs.kept hst; (first | (have s3 := s3.kept hst) | skip); (first | (have s5 := s5.kept hst) | skip); (first | (have s6 := s6.kept hst) | skip); (first | (have s7 := s7.kept hst) | skip); (first | (have s8 := s8.kept hst) | skip); clear hst; have d0 := ff.b.h0; have d1 := ff.b.h1; have d2 := ff.b.h2))
    go_ret
    exact ⟨ret_bool (by first | rfl | (simp; done) | (simp; omega)), hkc⟩
  have HR1 := hid hR.1
  have HR2 := hid hR.2
  have HF : Hid (BIf true (RegP t c (fs.length : Int))) := hid ⟨fun _ => (regP_nat t c _).2 hR, fun _ => rfl⟩
  clear hR
  by_cases hn : 0 ≤ n ∧ n ≤ 16
  case neg =>
    have hcs : n < 0 ∨ (0 ≤ n ∧ 16 < n) := by omega
    clear hn
    rcases hcs with g1 | ⟨g1, g2⟩
    all_goals
      go_wp2_with (first
        | (go_at_call 30; (with_reducible refine (rReg_r G t P M mod vm _ c fs.length true _ HO (ff.m.kept (by first | exact Kept.rfl' _ | exact kept_alloc _ _ | exact kept_drew _ | exact kept_drewN _ _ | exact (kept_drew _).drewN _)) (sc.kept (by first | exact Kept.rfl' _ | exact kept_alloc _ _ | exact kept_drew _ | exact kept_drewN _ _ | exact (kept_drew _).drewN _)) (by omega) HF.out).mono ?_); rintro e wx ⟨rfl, kx⟩; have hst := Kept.from hcur (by first | exact Kept.rfl' _ | exact kept_alloc _ _ | exact kept_drew _ | exact kept_drewN _ _ | exact (kept_drew _).drewN _) kx; clear hcur kx; have hcur := cur wx; have hkc := hkc.tr hst; have ff := ff.kept hst; have sc := sc.kept hst; have sfs := sfs.kept hst; (first | (have s3 := s3.kept hst) | skip); (first | (have s5 := s5.kept hst) | skip); (first | (have s6 := s6.kept hst) | skip); (first | (have s7 := s7.kept hst) | skip); (first | (have s8 := s8.kept hst) | skip); clear hst; have d0 := ff.b.h0; have d1 := ff.b.h1; have d2 := ff.b.h2))
      go_ret
      exact ⟨ret_bool (by first | rfl | (simp; done) | (simp; omega)), hkc⟩
  obtain ⟨g1, g2⟩ := hn
  obtain ⟨k, rfl⟩ := Int.eq_ofNat_of_zero_le g1
  obtain ⟨K, hK⟩ : ∃ K, K = 2 * fs.length := ⟨_, rfl⟩
  obtain ⟨N, hN⟩ : ∃ N, N = K + k := ⟨_, rfl⟩
  have hN1 : N ≤ 4096 := by omega
  have hKN : K ≤ N := by omega
  have HK := hid hK
  have w1' : IntKind.i64.wrap (2 * (fs.length : Int)) = (K : Int) := by rw [IntWalk.i64_in _ (by omega)]; omega
  have w2' : IntKind.i64.wrap ((K : Int) + (k : Int)) = (N : Int) := by rw [IntWalk.i64_in _ (by omega)]; omega
  have hn100 : N ≤ 100 := by omega
  clear hK hN
  go_wp2_with (first
    | (go_at_call 30; (with_reducible refine (rReg_r G t P M mod vm _ c fs.length true _ HO (ff.m.kept (by first | exact Kept.rfl' _ | exact kept_alloc _ _ | exact kept_drew _ | exact kept_drewN _ _ | exact (kept_drew _).drewN _)) (sc.kept (by first | exact Kept.rfl' _ | exact kept_alloc _ _ | exact kept_drew _ | exact kept_drewN _ _ | exact (kept_drew _).drewN _)) (by omega) HF.out).mono ?_); rintro e wx ⟨rfl, kx⟩; have hst := Kept.from hcur (by first | exact Kept.rfl' _ | exact kept_alloc _ _ | exact kept_drew _ | exact kept_drewN _ _ | exact (kept_drew _).drewN _) kx; clear hcur kx; have hcur := cur wx; have hkc := hkc.tr hst; have ff := ff.kept hst; have sc := sc.kept hst; have sfs := sfs.kept hst; (first | (have s3 := s3.kept hst) | skip); (first | (have s5 := s5.kept hst) | skip); (first | (have s6 := s6.kept hst) | skip); (first | (have s7 := s7.kept hst) | skip); (first | (have s8 := s8.kept hst) | skip); clear hst; have d0 := ff.b.h0; have d1 := ff.b.h1; have d2 := ff.b.h2))
  refine (rGenerate_p G t P M mod vm _ _ c fs N _ HO (ff.m.kept (by first | exact Kept.rfl' _ | exact kept_alloc _ _ | exact kept_drew _ | exact kept_drewN _ _ | exact (kept_drew _).drewN _)) (sc.kept (by first | exact Kept.rfl' _ | exact kept_alloc _ _ | exact kept_drew _ | exact kept_drewN _ _ | exact (kept_drew _).drewN _)) (sfs.kept (by first | exact Kept.rfl' _ | exact kept_alloc _ _ | exact kept_drew _ | exact kept_drewN _ _ | exact (kept_drew _).drewN _)) HR1.out HR2.out (by omega) hN1).mono ?_
  rintro e wx ⟨v3, l3, rfl, o3, kx, hg3⟩
  have hst := Kept.from hcur (by first | exact Kept.rfl' _ | exact kept_alloc _ _ | exact kept_drew _ | exact kept_drewN _ _ | exact (kept_drew _).drewN _) kx
  clear hcur kx
  have hcur := cur wx
  have hkc := hkc.tr hst
  have ff := ff.kept hst
  have sc := sc.kept hst
  have sfs := sfs.kept hst
  (first | (have s3 := s3.kept hst) | skip)
  (first | (have s5 := s5.kept hst) | skip)
  (first | (have s6 := s6.kept hst) | skip)
  (first | (have s7 := s7.kept hst) | skip)
  (first | (have s8 := s8.kept hst) | skip)
  clear hst
  have d0 := ff.b.h0
  have d1 := ff.b.h1
  have d2 := ff.b.h2
  have s3 := o3.sl
  have HG := hid hg3
  have e3 : Hid (l3.length = N) := hid hg3.len
  clear hg3 o3
  have z3 := s3
  obtain ⟨a3, cp3, rfl, ta3, ⟨tb3, _⟩, _⟩ := z3
  unfold maxLen at tb3
  have hK3 : K ≤ l3.length := by have := e3.out; omega
  have i1 : (K : Int) ≤ (cp3 : Int) := by omega
  have i0 : (0 : Int) ≤ (K : Int) := by omega
  have hLK : (l3.take K).length ≤ 300 := by rw [List.length_take]; omega
  go_wp2_with (fail)
  refine (shortest_any b G t _ (l3.take K) _ (ff.g.kept (by first | exact Kept.rfl' _ | exact kept_alloc _ _ | exact kept_drew _ | exact kept_drewN _ _ | exact (kept_drew _).drewN _)) ((sl_take s3 hK3).kept (by first | exact Kept.rfl' _ | exact kept_alloc _ _ | exact kept_drew _ | exact kept_drewN _ _ | exact (kept_drew _).drewN _)) hLK).mono ?_
  rintro e wx ⟨v5, l5, m5, rfl, o5, kx, c5, old5, bb5, since5, hbm5⟩
  have hst := Kept.from hcur (by first | exact Kept.rfl' _ | exact kept_alloc _ _ | exact kept_drew _ | exact kept_drewN _ _ | exact (kept_drew _).drewN _) kx
  clear hcur kx
  have hcur := cur wx
  have hkc := hkc.tr hst
  have ff := ff.kept hst
  have sc := sc.kept hst
  have sfs := sfs.kept hst
  (first | (have s3 := s3.kept hst) | skip)
  (first | (have s5 := s5.kept hst) | skip)
  (first | (have s6 := s6.kept hst) | skip)
  (first | (have s7 := s7.kept hst) | skip)
  (first | (have s8 := s8.kept hst) | skip)
  clear hst
  have d0 := ff.b.h0
  have d1 := ff.b.h1
  have d2 := ff.b.h2
  have s5 := o5.sl
  have REC := hid (recover HG.out HR1.out HR2.out HK.out hKN hbm5)
  have n5 : l5.length ≤ 100 := (by have h1 := t.can_ln' c5 rfl; have h2 := REC.out.2.2.1; have h3 := REC.out.2.2.2.1; have h4 := REC.out.1; omega)
  clear hbm5 o5
  have m0 : (0 : Int) ≤ (m5 : Int) := by omega
  have m1 : (m5 : Int) ≤ (fs.length : Int) := by have := REC.out.1; omega
  have hm3 : m5 ≤ l3.length := by have := REC.out.1; have := HK.out; omega
  have m2 : (m5 : Int) ≤ (cp3 : Int) := by have := hm3; omega
  go_wp2_with (first
    | (go_at_call 29; (with_reducible refine (generate_any b G t _ _ l5 (l3.take m5) N _ (ff.g.kept (by first | exact Kept.rfl' _ | exact kept_alloc _ _ | exact kept_drew _ | exact kept_drewN _ _ | exact (kept_drew _).drewN _)) (s5.kept (by first | exact Kept.rfl' _ | exact kept_alloc _ _ | exact kept_drew _ | exact kept_drewN _ _ | exact (kept_drew _).drewN _)) ((sl_take s3 hm3).kept (by first | exact Kept.rfl' _ | exact kept_alloc _ _ | exact kept_drew _ | exact kept_drewN _ _ | exact (kept_drew _).drewN _)) (by omega) REC.out.2.1 REC.out.2.2.1 hN1).mono ?_); rintro e wx ⟨v6, l6, rfl, o6, kx, hg6⟩; have hst := Kept.from hcur (by first | exact Kept.rfl' _ | exact kept_alloc _ _ | exact kept_drew _ | exact kept_drewN _ _ | exact (kept_drew _).drewN _) kx; clear hcur kx; have hcur := cur wx; have hkc := hkc.tr hst; have ff := ff.kept hst; have sc := sc.kept hst; have sfs := sfs.kept hst; (first | (have s3 := s3.kept hst) | skip); (first | (have s5 := s5.kept hst) | skip); (first | (have s6 := s6.kept hst) | skip); (first | (have s7 := s7.kept hst) | skip); (first | (have s8 := s8.kept hst) | skip); clear hst; have d0 := ff.b.h0; have d1 := ff.b.h1; have d2 := ff.b.h2; have s6 := o6.sl; have E6 : Hid (l6 = l3) := hid (gen_unique hg6 REC.out.2.2.2.2 REC.out.2.1); clear hg6 o6)
    | (go_at_call 19; (with_reducible refine (same_eq _ _ l6 l3 _ (s6.kept (by first | exact Kept.rfl' _ | exact kept_alloc _ _ | exact kept_drew _ | exact kept_drewN _ _ | exact (kept_drew _).drewN _)) (s3.kept (by first | exact Kept.rfl' _ | exact kept_alloc _ _ | exact kept_drew _ | exact kept_drewN _ _ | exact (kept_drew _).drewN _)) E6.out).mono ?_); rintro e wx ⟨rfl, kx⟩; have hst := Kept.from hcur (by first | exact Kept.rfl' _ | exact kept_alloc _ _ | exact kept_drew _ | exact kept_drewN _ _ | exact (kept_drew _).drewN _) kx; clear hcur kx; have hcur := cur wx; have hkc := hkc.tr hst; have ff := ff.kept hst; have sc := sc.kept hst; have sfs := sfs.kept hst; (first | (have s3 := s3.kept hst) | skip); (first | (have s5 := s5.kept hst) | skip); (first | (have s6 := s6.kept hst) | skip); (first | (have s7 := s7.kept hst) | skip); (first | (have s8 := s8.kept hst) | skip); clear hst; have d0 := ff.b.h0; have d1 := ff.b.h1; have d2 := ff.b.h2))
  go_ret
  exact ⟨ret_bool (by first | rfl | (simp; done) | (simp; omega)), hkc⟩
end Go.Proofs.Ytmakdclgpeochaa
