/- The walk of the law PolyShifts. No conditions. -/
import Derived.Test.YtjoednmoginhpaaNd
import Derived.Test.YtjoednmoginhpaaQb
namespace Go.Proofs.Ytjoednmoginhpaa
open Go.RowKit Cw

set_option maxRecDepth 100000 in
set_option maxHeartbeats 4000000 in
theorem polyShifts_law (P M : Int) (vm : Value) (mod : List Int) (vp : Value) (p : List Int) (n : Int) (w : World) (hvm : Sl w vm mod) (hp : Sl w vp p) :
    Calls Try.prog 6 #[.agg #[.int .i64 P, .int .i64 M, vm], vp, .int .i64 n] w fun e w' => e = .returned (.bool true) ∧ Kept w w' := by
  have hkc := kept_alloc w (.cells #[.int .i64 P, .int .i64 M, vm] 24)
  have bb := boxF_new w P M vm 24
  have sm := hvm.kept hkc
  have sp := hp.kept hkc
  obtain ⟨ap, capp, rfl, qp1, ⟨qp2, _⟩, _⟩ := hp
  unfold maxLen at qp2
  go_enter Try.func6, Try.ntmps6
  go_wp2_with (go_at_call 20; (with_reducible refine (alive5_any _).mono ?_); rintro e w1 ⟨rfl, ka⟩; have bb := bb.kept ka; have sm := sm.kept ka; have hkc := hkc.tr ka; have sp := sp.kept ka; have d0 := bb.h0; have d1 := bb.h1; have d2 := bb.h2; clear ka)
  by_cases hf : FieldP P M mod
  case neg =>
    have HF := hid hf
    clear hf
    go_wp2_with (go_at_call 21; (with_reducible refine (made5_no P M vm mod _ sm HF.out).mono ?_); rintro e w2 ⟨rfl, k2⟩)
    go_ret
    exact ⟨rfl, hkc.tr k2⟩
  have HF := hid hf
  clear hf
  by_cases hs : Shrt [p]
  case neg =>
    have HS := hid hs
    clear hs
    go_wp2_with (first
      | (go_at_call 21; (with_reducible refine (made5_yes P M vm mod _ sm HF.out).mono ?_); rintro e w2 ⟨b, G, rfl, g2, t, gP, gM, gm, k2⟩; have HO : Hid (Of G P M mod) := hid ⟨gP, gM, gm⟩; clear gP gM gm; have hkc := hkc.tr k2; have ff : Fw w2 b G w.heap.size P M vm mod := ⟨g2, bb.kept k2, sm.kept k2⟩; have sp := sp.kept k2; have d0 := ff.b.h0; have d1 := ff.b.h1; have d2 := ff.b.h2; clear k2 g2 bb sm; have hcur := cur w2)
      | (go_at_call 22; (with_reducible refine (short_r _ [p] _ (sll_one _ _ _ _ _ sp) false (.inr ⟨rfl, HS.out⟩)).mono ?_); rintro e w3 ⟨rfl, k3⟩; have hst := Kept.tr (kept_alloc _ _) k3; have hkc := hkc.tr hst; have ff := ff.kept hst; have sp := sp.kept hst; clear hst k3 hcur; have hcur := cur w3; have d0 := ff.b.h0; have d1 := ff.b.h1; have d2 := ff.b.h2))
    go_ret
    exact ⟨rfl, hkc⟩
  have HS := hid hs
  have np : p.length ≤ 24 := hs _ (by simp)
  clear hs
  go_wp2_with (first
    | (go_at_call 21; (with_reducible refine (made5_yes P M vm mod _ sm HF.out).mono ?_); rintro e w2 ⟨b, G, rfl, g2, t, gP, gM, gm, k2⟩; have HO : Hid (Of G P M mod) := hid ⟨gP, gM, gm⟩; clear gP gM gm; have hkc := hkc.tr k2; have ff : Fw w2 b G w.heap.size P M vm mod := ⟨g2, bb.kept k2, sm.kept k2⟩; have sp := sp.kept k2; have d0 := ff.b.h0; have d1 := ff.b.h1; have d2 := ff.b.h2; clear k2 g2 bb sm; have hcur := cur w2)
    | (go_at_call 22; (with_reducible refine (short_r _ [p] _ (sll_one _ _ _ _ _ sp) true (.inl ⟨rfl, HS.out⟩)).mono ?_); rintro e w3 ⟨rfl, k3⟩; have hst := Kept.tr (kept_alloc _ _) k3; have hkc := hkc.tr hst; have ff := ff.kept hst; have sp := sp.kept hst; clear hst k3 hcur; have hcur := cur w3; have d0 := ff.b.h0; have d1 := ff.b.h1; have d2 := ff.b.h2))
  by_cases hn : n < 0 ∨ 4096 < n
  · have HN := hid hn
    by_cases h0 : n < 0
    · clear hn
      go_wp2_with (first
        | (go_at_call 34; (with_reducible refine (shift_no b _ _ n HN.out).mono ?_); rintro e wx ⟨rfl, kx⟩; have hst := Kept.from hcur (by first | exact Kept.rfl' _ | exact kept_alloc _ _ | exact kept_drew _ | exact kept_drewN _ _ | exact (kept_drew _).drewN _) kx; clear hcur kx; have hcur := cur wx; have hkc := hkc.tr hst; have ff := ff.kept hst; have sp := sp.kept hst; (first | (have s3 := s3.kept hst) | skip); (first | (have s4 := s4.kept hst) | skip); clear hst; have d0 := ff.b.h0; have d1 := ff.b.h1; have d2 := ff.b.h2))
      go_ret
      exact ⟨ret_bool (by simp), hkc⟩
    · have h1 : 4096 < n := by omega
      have h2 : 0 ≤ n := by omega
      clear hn h0
      go_wp2_with (first
        | (go_at_call 34; (with_reducible refine (shift_no b _ _ n HN.out).mono ?_); rintro e wx ⟨rfl, kx⟩; have hst := Kept.from hcur (by first | exact Kept.rfl' _ | exact kept_alloc _ _ | exact kept_drew _ | exact kept_drewN _ _ | exact (kept_drew _).drewN _) kx; clear hcur kx; have hcur := cur wx; have hkc := hkc.tr hst; have ff := ff.kept hst; have sp := sp.kept hst; (first | (have s3 := s3.kept hst) | skip); (first | (have s4 := s4.kept hst) | skip); clear hst; have d0 := ff.b.h0; have d1 := ff.b.h1; have d2 := ff.b.h2))
      go_ret
      exact ⟨ret_bool (by simp), hkc⟩
  obtain ⟨m, rfl⟩ := Int.eq_ofNat_of_zero_le (show 0 ≤ n by omega)
  have m1 : (m : Int) ≤ 4096 := by omega
  have m2 : m ≤ 4096 := by omega
  have m0 : (0 : Int) ≤ (m : Int) := by omega
  clear hn
  go_wp2_with (first
    | (go_at_call 34; (with_reducible refine (shift_p b G t _ p _ m ff.g sp (by omega) m2).mono ?_); rintro e wx ⟨v3, l3, rfl, o3, kx, c3, p3⟩; have hst := Kept.from hcur (by first | exact Kept.rfl' _ | exact kept_alloc _ _ | exact kept_drew _ | exact kept_drewN _ _ | exact (kept_drew _).drewN _) kx; clear hcur kx; have hcur := cur wx; have hkc := hkc.tr hst; have ff := ff.kept hst; have sp := sp.kept hst; (first | (have s3 := s3.kept hst) | skip); (first | (have s4 := s4.kept hst) | skip); clear hst; have d0 := ff.b.h0; have d1 := ff.b.h1; have d2 := ff.b.h2; have s3 := o3.sl; have P3 := hid p3; clear p3 o3))
  refine (rCanon_p G t P M mod vm _ p _ HO sp (by omega)).mono ?_
  rintro e wx ⟨v4, l4, rfl, o4, kx, c4, p4⟩
  have hst := Kept.from hcur (by first | exact Kept.rfl' _ | exact kept_alloc _ _ | exact kept_drew _ | exact kept_drewN _ _ | exact (kept_drew _).drewN _) kx
  clear hcur kx
  have hcur := cur wx
  have hkc := hkc.tr hst
  have ff := ff.kept hst
  have sp := sp.kept hst
  (first | (have s3 := s3.kept hst) | skip)
  (first | (have s4 := s4.kept hst) | skip)
  clear hst
  have d0 := ff.b.h0
  have d1 := ff.b.h1
  have d2 := ff.b.h2
  have s4 := o4.sl
  have P4 := hid p4
  clear p4 o4
  have z4 := s4
  obtain ⟨a4, cp4, rfl, ta4, ⟨tb4, _⟩, hc4⟩ := z4
  unfold maxLen at tb4
  have n4 : l4.length ≤ 24 := (by have := t.can_ln' c4 P4.out; have := t.pl_ln_le p; omega)
  by_cases h4 : l4 = []
  · have EQ : Hid (l3 = l4) := hid (t.pl_inj c3 c4 (by rw [P3.out, P4.out, ← P4.out, h4, t.pl_nil, Rg.mul_zero]))
    subst h4
    simp only [List.length_nil] at s4
    go_wp2_with (first
      | (go_at_call 27; (with_reducible refine (same_eq _ _ l3 [] _ s3 s4 EQ.out).mono ?_); rintro e wx ⟨rfl, kx⟩; have hst := Kept.from hcur (by first | exact Kept.rfl' _ | exact kept_alloc _ _ | exact kept_drew _ | exact kept_drewN _ _ | exact (kept_drew _).drewN _) kx; clear hcur kx; have hcur := cur wx; have hkc := hkc.tr hst; have ff := ff.kept hst; have sp := sp.kept hst; (first | (have s3 := s3.kept hst) | skip); (first | (have s4 := s4.kept hst) | skip); clear hst; have d0 := ff.b.h0; have d1 := ff.b.h1; have d2 := ff.b.h2))
    go_ret
    exact ⟨ret_bool (by simp), hkc⟩
  have hp4 := List.length_pos_iff.2 h4
  have H4 := hid h4
  obtain ⟨wB, hwB⟩ : ∃ x, x = wx := ⟨_, rfl⟩
  subst hwB
  have hcb := s4.nn
  have hcb1 := hid hcb.1
  have hcb2 := hid hcb.2
  have hp4' : (0 : Int) < (l4.length : Int) := by omega
  clear h4 hcb
  go_wp2_with (first
    | (at_make; refine wpList_make_ints rfl _ _ rfl m _ _ rfl rfl rfl rfl (by omega) ?_; intro w6 ho hk; have hcl := hid (s4.kept hk).addr; have hlb : (List.replicate m (0 : Int)).length + l4.length ≤ 1000000 := (by rw [List.length_replicate]; omega))
    | (at_builtin; (refine wpList_append_ints rfl (.tmp 50) (.tmp 51) rfl _ _ _ rfl ho a4 l4.length cp4 l4 rfl rfl hcb1.out hcb2.out hcl.out hlb hk.size ?_); intro v7 w7 o7 gr7 _; have hst := below_append hk hk.size ho (Nat.le_refl _) gr7; clear hcur; have hcur := cur w7; have hkc := hkc.tr hst; have ff := ff.kept hst; have sp := sp.kept hst; have s3 := s3.kept hst; clear hst; have d0 := ff.b.h0; have d1 := ff.b.h1; have d2 := ff.b.h2; have s7 := o7.sl)
    | (go_at_call 27; (with_reducible refine (same_eq _ _ l3 _ _ s3 s7 (t.pl_inj c3 (can_shift t l4 m H4.out c4) (by rw [P3.out, pl_shift, P4.out]))).mono ?_); rintro e wx ⟨rfl, kx⟩; have hst := Kept.from hcur (by first | exact Kept.rfl' _ | exact kept_alloc _ _ | exact kept_drew _ | exact kept_drewN _ _ | exact (kept_drew _).drewN _) kx; clear hcur kx; have hcur := cur wx; have hkc := hkc.tr hst; have ff := ff.kept hst; have sp := sp.kept hst; (first | (have s3 := s3.kept hst) | skip); clear hst; have d0 := ff.b.h0; have d1 := ff.b.h1; have d2 := ff.b.h2))
  go_ret
  exact ⟨ret_bool (by simp), hkc⟩
end Go.Proofs.Ytjoednmoginhpaa
