/- The walk of the law PolyCanon. No conditions. -/
import Derived.Test.YtjoednmoginhpaaNc
import Derived.Test.YtjoednmoginhpaaQa
namespace Go.Proofs.Ytjoednmoginhpaa
open Go.RowKit Cw

set_option maxRecDepth 100000 in
set_option maxHeartbeats 2000000 in
theorem polyCanon_law (P M : Int) (vm : Value) (mod : List Int) (v : Value) (p : List Int) (w : World) (hvm : Sl w vm mod) (hv : Sl w v p) :
    Calls Try.prog 4 #[.agg #[.int .i64 P, .int .i64 M, vm], v] w fun e w' => e = .returned (.bool true) ∧ Kept w w' := by
  have hk := kept_alloc w (.cells #[.int .i64 P, .int .i64 M, vm] 24)
  have bx0 := boxF_new w P M vm 24
  have sm := hvm.kept hk
  have sp := hv.kept hk
  obtain ⟨a, cap, rfl, hcap, ⟨hcm, _⟩, hc⟩ := hv
  unfold maxLen at hcm
  clear hc
  go_enter Try.func4, Try.ntmps4
  go_wp2_with (go_at_call 20; (with_reducible refine (alive5_any _).mono ?_); rintro e w1 ⟨rfl, ka⟩; have b1 := bx0.kept ka; have s1 := sm.kept ka; have p1 := sp.kept ka; have hkA := hk.tr ka; have c3 := b1.h0; have c4 := b1.h1; have c5 := b1.h2)
  by_cases hf : FieldP P M mod
  case neg =>
    have HF := hid hf
    clear hf
    go_wp2_with (go_at_call 21; (with_reducible refine (made5_no P M vm mod _ s1 HF.out).mono ?_); rintro e w2 ⟨rfl, k2⟩)
    go_ret
    exact ⟨rfl, hkA.tr k2⟩
  have HF := hid hf
  clear hf
  by_cases g1 : 300 < p.length
  · have G1 : (300 : Int) < (p.length : Int) := by omega
    clear g1
    go_wp2_with (go_at_call 21; (with_reducible refine (made5_yes P M vm mod _ s1 HF.out).mono ?_); rintro e w2 ⟨b, G, rfl, g2, t2, gP, gM, gm, k2⟩; clear gP gM gm)
    go_ret
    exact ⟨rfl, hkA.tr k2⟩
  have G1 : (p.length : Int) ≤ 300 := by omega
  have hl : p.length ≤ 1000000 := by omega
  clear g1
  go_wp2_with (first
    | (go_at_call 21; (with_reducible refine (made5_yes P M vm mod _ s1 HF.out).mono ?_); rintro e w2 ⟨b, G, rfl, g2, t2, gP, gM, gm, k2⟩; have HO : Hid (Of G P M mod) := hid ⟨gP, gM, gm⟩; clear gP gM gm; have hkB := hkA.tr k2; have p2 := p1.kept k2; have b2 := b1.kept k2; have d0 := b2.h0; have d1 := b2.h1; have d2 := b2.h2)
    | (go_at_call 29; (with_reducible refine (canon_any b G t2 _ p _ g2 p2 hl).mono ?_); rintro e w3 ⟨g3, k3, cap3, l3, rfl, o3, kk3, can3, po3, n3⟩; have hkC := hkB.tr kk3; have HP3 := hid po3; have b3 := b2.kept kk3; have e0 := b3.h0; have e1 := b3.h1; have e2 := b3.h2; have N3 := hid n3; clear po3 n3))
  have el := o3.len
  subst el
  have s3 := o3.sl
  have p3 := p2.kept kk3
  have g3' := g2.kept kk3
  refine (rCanon_any G t2 P M mod vm _ p _ HO p3 hl).mono ?_
  rintro e w4 ⟨v4, l4, rfl, o4, kk4, can4, po4, n4⟩
  obtain rfl : l4 = l3 := t2.can_inj can4 can3 (by rw [po4, HP3.out])
  have hkD := hkC.tr kk4
  have s4 := s3.kept kk4
  have sv4 := o4.sl
  have p4 := p3.kept kk4
  have g4 := g3'.kept kk4
  clear po4 n4 s3 p3 g3' o4
  go_wp2_with (fail)
  refine (sameL_any _ _ l4 l4 _ s4 sv4 true (by simp)).mono ?_
  rintro e w5 ⟨rfl, m5, rfl⟩
  go_wp2_with (fail)
  refine (degree_any b G t2 _ p l4 _ (g4.drewN _) (p4.kept (kept_drewN _ _)) hl can3 HP3.out).mono ?_
  rintro e w6 ⟨rfl, kk6⟩
  have kk6' := (kept_drewN w4 m5).tr kk6
  have s6 := s4.kept kk6'
  have g6 := g4.kept kk6'
  have hkE := hkD.tr kk6'
  clear s4 sv4 p4 g4
  have hn0 : (l4.length : Int) ≤ 300 := by have := N3.out; omega
  have hn1 : (0 : Int) ≤ (l4.length : Int) := by omega
  go_wp2_with (fail)
  refine (canon_any b G t2 _ l4 _ g6 s6 (by have := N3.out; omega)).mono ?_
  rintro e w7 ⟨g7, k7, cap7, l7, rfl, o7, kk7, can7, po7, n7⟩
  obtain rfl : l7 = l4 := t2.can_inj can7 can3 po7
  have hkF := hkE.tr kk7
  have s7 := s6.kept kk7
  have sv7 := o7.sl
  clear po7 n7 o7
  go_wp2_with (fail)
  refine (sameL_any _ _ l7 l7 _ sv7 s7 true (by simp)).mono ?_
  rintro e w8 ⟨rfl, m8, rfl⟩
  go_wp2_with (fail)
  go_ret
  exact ⟨rfl, hkF.drewN m8⟩
end Go.Proofs.Ytjoednmoginhpaa
