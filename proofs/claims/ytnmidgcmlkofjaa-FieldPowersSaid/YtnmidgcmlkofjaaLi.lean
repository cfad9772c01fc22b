/- The walk of the law FieldPowers. No conditions. -/
import Derived.Test.YtnmidgcmlkofjaaLc
import Derived.Test.YtnmidgcmlkofjaaRh
import Derived.Test.YtnmidgcmlkofjaaGd
namespace Go.Proofs.Ytnmidgcmlkofjaa
open Go.RowKit Cw

set_option maxHeartbeats 1500000 in
theorem fieldPowers_law (P M : Int) (vm : Value) (mod : List Int) (x n : Int) (w : World) (hvm : Sl w vm mod) (hn1 : -9223372036854775808 ≤ n) (hn2 : n ≤ 9223372036854775807) :
    Calls Try.prog 12 #[.agg #[.int .i64 P, .int .i64 M, vm], .int .i64 x, .int .i64 n] w fun e w' => e = .returned (.bool true) ∧ Kept w w' := by
  have hk := kept_alloc w (.cells #[.int .i64 P, .int .i64 M, vm] 24)
  have bx0 := boxF_new w P M vm 24
  have sv := hvm.kept hk
  by_cases hf : FieldP P M mod
  case neg =>
    have HF := hid hf
    clear hf
    go_enter Try.func12, Try.ntmps12
    go_wp2_with (first
      | (go_at_call 17; (with_reducible refine (alive_any _).mono ?_); rintro e w1 ⟨rfl, ka⟩; have b1 := bx0.kept ka; have s1 := sv.kept ka; have hkA := hk.tr ka; have c3 := b1.h0; have c4 := b1.h1; have c5 := b1.h2)
      | (go_at_call 18; (with_reducible refine (made_no P M vm mod _ s1 HF.out).mono ?_); rintro e w2 ⟨rfl, k2⟩; have hkB := hkA.tr k2; have s2 := hvm.kept hkB; have b2 := b1.kept k2; have d0 := b2.h0; have d1 := b2.h1; have d2 := b2.h2)
      | (go_at_call 19; (with_reducible refine (none_any P M vm mod _ s2 HF.out).mono ?_); rintro e w3 ⟨rfl, k3⟩))
    go_ret
    exact ⟨rfl, hkB.tr k3⟩
  have HF := hid hf
  clear hf
  go_enter Try.func12, Try.ntmps12
  go_wp2_with (first
    | (go_at_call 17; (with_reducible refine (alive_any _).mono ?_); rintro e w1 ⟨rfl, ka⟩; have b1 := bx0.kept ka; have s1 := sv.kept ka; have hkA := hk.tr ka; have c3 := b1.h0; have c4 := b1.h1; have c5 := b1.h2)
    | (go_at_call 18; (with_reducible refine (made_yes P M vm mod _ s1 HF.out).mono ?_); rintro e w2 ⟨b, G, rfl, hg2, t2, gP, gM, gm, k2⟩; have hkC := hkA.tr k2; have s2 := s1.kept k2; have b2 := b1.kept k2; have d0 := b2.h0; have d1 := b2.h1; have d2 := b2.h2; have HO : Hid (Of G P M mod) := hid ⟨gP, gM, gm⟩; clear gP gM gm))
  by_cases hn : n = 0
  · subst hn
    go_wp2_with (first
      | (go_at_call 45; (with_reducible refine (pow_zero b G x _ (by first | exact hg2 | exact hg2.drew | exact hg2.drewN _ | exact hg2.drew.drewN _)).mono ?_); rintro e w11 ⟨rfl, n11, rfl⟩)
      | (go_at_call 46; (with_reducible refine (rPow_zero P M vm x _).mono ?_); rintro e w12 ⟨rfl, k12⟩; have kk12 := Kept.tr (a := w2) (by first | exact Kept.rfl' _ | exact kept_drew _ | exact kept_drewN _ _ | exact (kept_drew _).drewN _) k12; have hg12 := hg2.kept kk12; have b12 := b2.kept kk12; have s12 := s2.kept kk12; have hk12 := hkC.tr kk12; have x12 := b12.h0; have y12 := b12.h1; have z12 := b12.h2))
    go_ret
    exact ⟨ret_bool (by simp), Kept.tr hk12 (by first | exact Kept.rfl' _ | exact kept_drew _ | exact kept_drewN _ _ | exact (kept_drew _).drewN _)⟩
  by_cases hz : inn G.q x = 0
  · have HZ := hid hz
    have HZR : Hid (inn (ordS P M) x = 0) := hid (by rw [← HO.out.1, ← HO.out.2.1, ← t2.hq]; exact hz)
    clear hz
    by_cases hneg : n < 0
    · clear hn
      go_wp2_with (first
        | (go_at_call 45; (with_reducible refine (pow_neg b G x n _ (by first | exact hg2 | exact hg2.drew | exact hg2.drewN _ | exact hg2.drew.drewN _) HZ.out hneg).mono ?_); rintro e w11 ⟨rfl, n11, rfl⟩)
        | (go_at_call 46; (with_reducible refine (rPow_neg P M vm x n _ HZR.out hneg).mono ?_); rintro e w12 ⟨rfl, k12⟩; have kk12 := Kept.tr (a := w2) (by first | exact Kept.rfl' _ | exact kept_drew _ | exact kept_drewN _ _ | exact (kept_drew _).drewN _) k12; have hg12 := hg2.kept kk12; have b12 := b2.kept kk12; have s12 := s2.kept kk12; have hk12 := hkC.tr kk12; have x12 := b12.h0; have y12 := b12.h1; have z12 := b12.h2))
      go_ret
      exact ⟨ret_bool (by simp), Kept.tr hk12 (by first | exact Kept.rfl' _ | exact kept_drew _ | exact kept_drewN _ _ | exact (kept_drew _).drewN _)⟩
    · have hpos : 0 < n := by omega
      clear hn hneg
      go_wp2_with (first
        | (go_at_call 45; (with_reducible refine (pow_nought b G x n _ (by first | exact hg2 | exact hg2.drew | exact hg2.drewN _ | exact hg2.drew.drewN _) HZ.out hpos).mono ?_); rintro e w11 ⟨rfl, n11, rfl⟩)
        | (go_at_call 46; (with_reducible refine (rPow_nought P M vm x n _ HZR.out hpos).mono ?_); rintro e w12 ⟨rfl, k12⟩; have kk12 := Kept.tr (a := w2) (by first | exact Kept.rfl' _ | exact kept_drew _ | exact kept_drewN _ _ | exact (kept_drew _).drewN _) k12; have hg12 := hg2.kept kk12; have b12 := b2.kept kk12; have s12 := s2.kept kk12; have hk12 := hkC.tr kk12; have x12 := b12.h0; have y12 := b12.h1; have z12 := b12.h2))
      go_ret
      exact ⟨ret_bool (by simp), Kept.tr hk12 (by first | exact Kept.rfl' _ | exact kept_drew _ | exact kept_drewN _ _ | exact (kept_drew _).drewN _)⟩
  · have HZ := hid hz
    have HN := hid hn
    clear hz hn
    go_wp2_with (first
      | (go_at_call 45; (with_reducible refine (pow_ok b G x n _ (by first | exact hg2 | exact hg2.drew | exact hg2.drewN _ | exact hg2.drew.drewN _) t2 HZ.out HN.out hn1 hn2).mono ?_); rintro e w11 ⟨rfl, n11, rfl⟩)
      | (go_at_call 46; (with_reducible refine (rPow_ok G t2 P M mod vm x n _ HO (s2.kept (by first | exact Kept.rfl' _ | exact kept_drew _ | exact kept_drewN _ _ | exact (kept_drew _).drewN _)) HZ.out HN.out hn1 hn2).mono ?_); rintro e w12 ⟨rfl, k12⟩; have kk12 := Kept.tr (a := w2) (by first | exact Kept.rfl' _ | exact kept_drew _ | exact kept_drewN _ _ | exact (kept_drew _).drewN _) k12; have hg12 := hg2.kept kk12; have b12 := b2.kept kk12; have s12 := s2.kept kk12; have hk12 := hkC.tr kk12; have x12 := b12.h0; have y12 := b12.h1; have z12 := b12.h2))
    go_ret
    exact ⟨ret_bool (by simp), Kept.tr hk12 (by first | exact Kept.rfl' _ | exact kept_drew _ | exact kept_drewN _ _ | exact (kept_drew _).drewN _)⟩
end Go.Proofs.Ytnmidgcmlkofjaa
