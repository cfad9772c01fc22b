/- The walk of the law PolyRoots. No conditions. -/
import Derived.Test.YtjoednmoginhpaaNd
import Derived.Test.YtjoednmoginhpaaQd
import Derived.Test.YtjoednmoginhpaaQh
namespace Go.Proofs.Ytjoednmoginhpaa
open Go.RowKit Cw

theorem rt_pair (G : GFd) (p : List Int) (q : Nat) : (rtL G p (upTo q)).Pairwise (fun a b => a < b) := by
  refine List.Pairwise.filter _ ?_
  refine List.pairwise_map.2 ?_
  exact (List.pairwise_lt_range (n := q)).imp (fun h => by omega)
theorem rt_mem {G : GFd} {p : List Int} {q : Nat} {x : Int} (h : x ∈ rtL G p (upTo q)) : (0 ≤ x ∧ x < (q : Int)) ∧ evL G p x = 0 := by
  obtain ⟨h1, h2⟩ := List.mem_filter.1 h
  obtain ⟨i, hi, rfl⟩ := List.mem_map.1 h1
  have := List.mem_range.1 hi
  exact ⟨⟨by omega, by omega⟩, by simpa using h2⟩
theorem rt_dvd {G : GFd} (t : Tabs G) (p : List Int) : Pl.Dvd (Pl.prf (fun i => t.e ((rtL G p (upTo G.q.toNat)).getD i 0)) (rtL G p (upTo G.q.toNat)).length) (t.pl p) := by
  have hq := t.qb
  refine Pl.prf_dvd' _ (fun i j hij hj e => ?_) (fun i hi => ?_)
  · have h1 := List.pairwise_iff_getElem.1 (rt_pair G p G.q.toNat) i j (by omega) hj hij
    have h2 := (rt_mem (List.getElem_mem (show i < (rtL G p (upTo G.q.toNat)).length by omega))).1
    have h3 := (rt_mem (List.getElem_mem hj)).1
    simp only [List.getD, List.getElem?_eq_getElem (show i < (rtL G p (upTo G.q.toNat)).length by omega), List.getElem?_eq_getElem hj, Option.getD_some] at e
    have := t.e_eq ⟨h2.1, by omega⟩ ⟨h3.1, by omega⟩ e
    omega
  · have h2 := (rt_mem (List.getElem_mem hi)).2
    simp only [List.getD, List.getElem?_eq_getElem hi, Option.getD_some]
    exact t.evL_zero.1 h2

set_option maxRecDepth 100000 in
set_option maxHeartbeats 4000000 in
theorem polyRoots_law (P M : Int) (vm : Value) (mod : List Int) (vp : Value) (p : List Int) (w : World) (hvm : Sl w vm mod) (hp : Sl w vp p) :
    Calls Try.prog 17 #[.agg #[.int .i64 P, .int .i64 M, vm], vp] w fun e w' => e = .returned (.bool true) ∧ Kept w w' := by
  have hkc := kept_alloc w (.cells #[.int .i64 P, .int .i64 M, vm] 24)
  have bb := boxF_new w P M vm 24
  have sm := hvm.kept hkc
  have sp := hp.kept hkc
  obtain ⟨ap, capp, rfl, qp1, ⟨qp2, _⟩, _⟩ := hp
  unfold maxLen at qp2
  go_enter Try.func17, Try.ntmps17
  go_wp2_with (go_at_call 20; (with_reducible refine (alive5_any _).mono ?_); rintro e w1 ⟨rfl, ka⟩; have bb := bb.kept ka; have sm := sm.kept ka; have hkc := hkc.tr ka; have sp := sp.kept ka; have d0 := bb.h0; have d1 := bb.h1; have d2 := bb.h2; clear ka)
  by_cases hf : FieldP P M mod
  case neg =>
    have HF := hid hf
    clear hf
    go_wp2_with (go_at_call 21; (with_reducible refine (made5_no P M vm mod _ sm HF.out).mono ?_); rintro e w2 ⟨rfl, k2⟩)
    go_ret
    exact ⟨rfl, hkc.tr k2⟩
  have HF := hid hf
  clear hf
  by_cases hs : Shrt [p]
  case neg =>
    have HS := hid hs
    clear hs
    go_wp2_with (first
      | (go_at_call 21; (with_reducible refine (made5_yes P M vm mod _ sm HF.out).mono ?_); rintro e w2 ⟨b, G, rfl, g2, t, gP, gM, gm, k2⟩; have HO : Hid (Of G P M mod) := hid ⟨gP, gM, gm⟩; clear gP gM gm; have hkc := hkc.tr k2; have ff : Fw w2 b G w.heap.size P M vm mod := ⟨g2, bb.kept k2, sm.kept k2⟩; have sp := sp.kept k2; have d0 := ff.b.h0; have d1 := ff.b.h1; have d2 := ff.b.h2; clear k2 g2 bb sm; have hcur := cur w2)
      | (go_at_call 22; (with_reducible refine (short_r _ [p] _ (sll_one _ _ _ _ _ sp) false (.inr ⟨rfl, HS.out⟩)).mono ?_); rintro e w3 ⟨rfl, k3⟩; have hst := Kept.tr (kept_alloc _ _) k3; have hkc := hkc.tr hst; have ff := ff.kept hst; have sp := sp.kept hst; clear hst k3 hcur; have hcur := cur w3; have d0 := ff.b.h0; have d1 := ff.b.h1; have d2 := ff.b.h2))
    go_ret
    exact ⟨rfl, hkc⟩
  have HS := hid hs
  have np : p.length ≤ 24 := hs _ (by simp)
  clear hs
  go_wp2_with (first
    | (go_at_call 21; (with_reducible refine (made5_yes P M vm mod _ sm HF.out).mono ?_); rintro e w2 ⟨b, G, rfl, g2, t, gP, gM, gm, k2⟩; have HO : Hid (Of G P M mod) := hid ⟨gP, gM, gm⟩; clear gP gM gm; have hkc := hkc.tr k2; have ff : Fw w2 b G w.heap.size P M vm mod := ⟨g2, bb.kept k2, sm.kept k2⟩; have sp := sp.kept k2; have d0 := ff.b.h0; have d1 := ff.b.h1; have d2 := ff.b.h2; clear k2 g2 bb sm; have hcur := cur w2)
    | (go_at_call 22; (with_reducible refine (short_r _ [p] _ (sll_one _ _ _ _ _ sp) true (.inl ⟨rfl, HS.out⟩)).mono ?_); rintro e w3 ⟨rfl, k3⟩; have hst := Kept.tr (kept_alloc _ _) k3; have hkc := hkc.tr hst; have ff := ff.kept hst; have sp := sp.kept hst; clear hst k3 hcur; have hcur := cur w3; have d0 := ff.b.h0; have d1 := ff.b.h1; have d2 := ff.b.h2))
  by_cases hz : t.pl p = 0
  · have HZ := hid hz
    have hd0 : ((t.pl p).ln : Int) - 1 < 0 := by rw [hz, Pl.ln_zero]; omega
    clear hz
    go_wp2_with (first
      | (go_at_call 57; (with_reducible refine (roots_z b G t _ p _ ff.g sp (by omega) HZ.out).mono ?_); rintro e wx ⟨rfl, kx⟩; have hst := Kept.from hcur (by first | exact Kept.rfl' _ | exact kept_alloc _ _ | exact kept_drew _ | exact kept_drewN _ _ | exact (kept_drew _).drewN _) kx; clear hcur kx; have hcur := cur wx; have hkc := hkc.tr hst; have ff := ff.kept hst; have sp := sp.kept hst; (first | (have s3 := s3.kept hst) | skip); (first | (have s4 := s4.kept hst) | skip); (first | (have s5 := s5.kept hst) | skip); (first | (have s6 := s6.kept hst) | skip); clear hst; have d0 := ff.b.h0; have d1 := ff.b.h1; have d2 := ff.b.h2)
      | (go_at_call 24; (with_reducible refine (rDegree_p G t P M mod vm _ p _ HO (sp.kept (by first | exact Kept.rfl' _ | exact kept_alloc _ _ | exact kept_drew _ | exact kept_drewN _ _ | exact (kept_drew _).drewN _)) (by omega)).mono ?_); rintro e wx ⟨rfl, kx⟩; have hst := Kept.from hcur (by first | exact Kept.rfl' _ | exact kept_alloc _ _ | exact kept_drew _ | exact kept_drewN _ _ | exact (kept_drew _).drewN _) kx; clear hcur kx; have hcur := cur wx; have hkc := hkc.tr hst; have ff := ff.kept hst; have sp := sp.kept hst; (first | (have s3 := s3.kept hst) | skip); (first | (have s4 := s4.kept hst) | skip); (first | (have s5 := s5.kept hst) | skip); (first | (have s6 := s6.kept hst) | skip); clear hst; have d0 := ff.b.h0; have d1 := ff.b.h1; have d2 := ff.b.h2))
    go_ret
    exact ⟨ret_bool (by simp), hkc⟩
  have HZ := hid hz
  have hd0 : (0 : Int) ≤ ((t.pl p).ln : Int) - 1 := by have := Pl.ln_pos hz; omega
  obtain ⟨l, hl⟩ : ∃ l, l = rtL G p (upTo G.q.toNat) := ⟨_, rfl⟩
  have HL : Hid (rtL G p (upTo G.q.toNat) = l) := hid hl.symm
  have hdv := rt_dvd t p
  rw [← hl] at hdv
  have HDV := hid hdv
  have hll : (l.length : Int) ≤ ((t.pl p).ln : Int) - 1 := by
    have h1 := Pl.dvd_ln hdv hz
    rw [Pl.ln_prf] at h1
    omega
  have hl24 : l.length ≤ 24 := by have := t.pl_ln_le p; omega
  clear hz hl hdv
  go_wp2_with (first
    | (go_at_call 57; (with_reducible refine (roots_p b G t _ p _ ff.g sp (by omega) HZ.out).mono ?_); rintro e wx ⟨v3, rfl, o3, kx⟩; have hst := Kept.from hcur (by first | exact Kept.rfl' _ | exact kept_alloc _ _ | exact kept_drew _ | exact kept_drewN _ _ | exact (kept_drew _).drewN _) kx; clear hcur kx; have hcur := cur wx; have hkc := hkc.tr hst; have ff := ff.kept hst; have sp := sp.kept hst; (first | (have s3 := s3.kept hst) | skip); (first | (have s4 := s4.kept hst) | skip); (first | (have s5 := s5.kept hst) | skip); (first | (have s6 := s6.kept hst) | skip); clear hst; have d0 := ff.b.h0; have d1 := ff.b.h1; have d2 := ff.b.h2; rw [HL.out] at o3; have s3 := o3.sl; clear o3; have z3 := s3; obtain ⟨a3, cp3, rfl, ta3, ⟨tb3, _⟩, _⟩ := z3; unfold maxLen at tb3)
    | (go_at_call 24; (with_reducible refine (rDegree_p G t P M mod vm _ p _ HO (sp.kept (by first | exact Kept.rfl' _ | exact kept_alloc _ _ | exact kept_drew _ | exact kept_drewN _ _ | exact (kept_drew _).drewN _)) (by omega)).mono ?_); rintro e wx ⟨rfl, kx⟩; have hst := Kept.from hcur (by first | exact Kept.rfl' _ | exact kept_alloc _ _ | exact kept_drew _ | exact kept_drewN _ _ | exact (kept_drew _).drewN _) kx; clear hcur kx; have hcur := cur wx; have hkc := hkc.tr hst; have ff := ff.kept hst; have sp := sp.kept hst; (first | (have s3 := s3.kept hst) | skip); (first | (have s4 := s4.kept hst) | skip); (first | (have s5 := s5.kept hst) | skip); (first | (have s6 := s6.kept hst) | skip); clear hst; have d0 := ff.b.h0; have d1 := ff.b.h1; have d2 := ff.b.h2)
    | (go_at_call 58; (with_reducible refine (rRoots_p G t P M mod vm _ p _ HO (ff.m.kept (by first | exact Kept.rfl' _ | exact kept_alloc _ _ | exact kept_drew _ | exact kept_drewN _ _ | exact (kept_drew _).drewN _)) (sp.kept (by first | exact Kept.rfl' _ | exact kept_alloc _ _ | exact kept_drew _ | exact kept_drewN _ _ | exact (kept_drew _).drewN _)) (by omega)).mono ?_); rintro e wx ⟨v4, rfl, o4, kx⟩; have hst := Kept.from hcur (by first | exact Kept.rfl' _ | exact kept_alloc _ _ | exact kept_drew _ | exact kept_drewN _ _ | exact (kept_drew _).drewN _) kx; clear hcur kx; have hcur := cur wx; have hkc := hkc.tr hst; have ff := ff.kept hst; have sp := sp.kept hst; (first | (have s3 := s3.kept hst) | skip); (first | (have s4 := s4.kept hst) | skip); (first | (have s5 := s5.kept hst) | skip); (first | (have s6 := s6.kept hst) | skip); clear hst; have d0 := ff.b.h0; have d1 := ff.b.h1; have d2 := ff.b.h2; rw [HL.out] at o4; have s4 := o4.sl; clear o4)
    | (go_at_call 27; (with_reducible refine (same_eq _ _ l l _ (s3.kept (by first | exact Kept.rfl' _ | exact kept_alloc _ _ | exact kept_drew _ | exact kept_drewN _ _ | exact (kept_drew _).drewN _)) (s4.kept (by first | exact Kept.rfl' _ | exact kept_alloc _ _ | exact kept_drew _ | exact kept_drewN _ _ | exact (kept_drew _).drewN _)) rfl).mono ?_); rintro e wx ⟨rfl, kx⟩; have hst := Kept.from hcur (by first | exact Kept.rfl' _ | exact kept_alloc _ _ | exact kept_drew _ | exact kept_drewN _ _ | exact (kept_drew _).drewN _) kx; clear hcur kx; have hcur := cur wx; have hkc := hkc.tr hst; have ff := ff.kept hst; have sp := sp.kept hst; (first | (have s3 := s3.kept hst) | skip); (first | (have s4 := s4.kept hst) | skip); (first | (have s5 := s5.kept hst) | skip); (first | (have s6 := s6.kept hst) | skip); clear hst; have d0 := ff.b.h0; have d1 := ff.b.h1; have d2 := ff.b.h2)
    | (go_at_call 40; (with_reducible refine (fromRoots_p b G t _ l _ (ff.g.kept (by first | exact Kept.rfl' _ | exact kept_alloc _ _ | exact kept_drew _ | exact kept_drewN _ _ | exact (kept_drew _).drewN _)) (s3.kept (by first | exact Kept.rfl' _ | exact kept_alloc _ _ | exact kept_drew _ | exact kept_drewN _ _ | exact (kept_drew _).drewN _)) (by omega)).mono ?_); rintro e wx ⟨v5, l5, rfl, o5, kx, c5, p5⟩; have hst := Kept.from hcur (by first | exact Kept.rfl' _ | exact kept_alloc _ _ | exact kept_drew _ | exact kept_drewN _ _ | exact (kept_drew _).drewN _) kx; clear hcur kx; have hcur := cur wx; have hkc := hkc.tr hst; have ff := ff.kept hst; have sp := sp.kept hst; (first | (have s3 := s3.kept hst) | skip); (first | (have s4 := s4.kept hst) | skip); (first | (have s5 := s5.kept hst) | skip); (first | (have s6 := s6.kept hst) | skip); clear hst; have d0 := ff.b.h0; have d1 := ff.b.h1; have d2 := ff.b.h2; have s5 := o5.sl; have P5 := hid p5; clear p5 o5; have E5 : Hid (((t.pl l5).ln : Int) - 1 = (l.length : Int)) := hid (by rw [P5.out, Pl.ln_prf]; omega); have N5 : Hid (t.pl l5 ≠ 0) := hid (by rw [P5.out]; exact Pl.prf_ne _ _); have n5 : l5.length ≤ 25 := (by have := t.can_ln' c5 P5.out; rw [Pl.ln_prf] at this; omega))
    | (go_at_call 24; (with_reducible refine (rDegree_p G t P M mod vm _ l5 _ HO (s5.kept (by first | exact Kept.rfl' _ | exact kept_alloc _ _ | exact kept_drew _ | exact kept_drewN _ _ | exact (kept_drew _).drewN _)) (by omega)).mono ?_); rintro e wx ⟨rfl, kx⟩; have hst := Kept.from hcur (by first | exact Kept.rfl' _ | exact kept_alloc _ _ | exact kept_drew _ | exact kept_drewN _ _ | exact (kept_drew _).drewN _) kx; clear hcur kx; have hcur := cur wx; have hkc := hkc.tr hst; have ff := ff.kept hst; have sp := sp.kept hst; (first | (have s3 := s3.kept hst) | skip); (first | (have s4 := s4.kept hst) | skip); (first | (have s5 := s5.kept hst) | skip); (first | (have s6 := s6.kept hst) | skip); clear hst; have d0 := ff.b.h0; have d1 := ff.b.h1; have d2 := ff.b.h2; rw [E5.out])
    | (go_at_call 54; (with_reducible refine (rRem_p G t P M mod vm _ _ p l5 _ HO (ff.m.kept (by first | exact Kept.rfl' _ | exact kept_alloc _ _ | exact kept_drew _ | exact kept_drewN _ _ | exact (kept_drew _).drewN _)) (sp.kept (by first | exact Kept.rfl' _ | exact kept_alloc _ _ | exact kept_drew _ | exact kept_drewN _ _ | exact (kept_drew _).drewN _)) (s5.kept (by first | exact Kept.rfl' _ | exact kept_alloc _ _ | exact kept_drew _ | exact kept_drewN _ _ | exact (kept_drew _).drewN _)) (by omega) (by omega) N5.out).mono ?_); rintro e wx ⟨v6, l6, rfl, o6, kx, c6, p6⟩; have hst := Kept.from hcur (by first | exact Kept.rfl' _ | exact kept_alloc _ _ | exact kept_drew _ | exact kept_drewN _ _ | exact (kept_drew _).drewN _) kx; clear hcur kx; have hcur := cur wx; have hkc := hkc.tr hst; have ff := ff.kept hst; have sp := sp.kept hst; (first | (have s3 := s3.kept hst) | skip); (first | (have s4 := s4.kept hst) | skip); (first | (have s5 := s5.kept hst) | skip); (first | (have s6 := s6.kept hst) | skip); clear hst; have d0 := ff.b.h0; have d1 := ff.b.h1; have d2 := ff.b.h2; have s6 := o6.sl; have P6 := hid p6; clear p6 o6; have E6 : l6 = [] := (t.pl_zero c6).1 (by rw [P6.out]; exact (Pl.rem_zero N5.out).2 (by rw [P5.out]; exact HDV.out)); subst E6; have z6 := s6; obtain ⟨a6, cp6, rfl, _⟩ := z6))
  go_ret
  exact ⟨ret_bool (by simp), hkc⟩
end Go.Proofs.Ytjoednmoginhpaa
