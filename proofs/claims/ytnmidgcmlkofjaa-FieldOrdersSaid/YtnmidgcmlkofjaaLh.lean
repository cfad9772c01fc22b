/- The walk of the law FieldOrders. No conditions. -/
import Derived.Test.YtnmidgcmlkofjaaLc
import Derived.Test.YtnmidgcmlkofjaaRh
import Derived.Test.YtnmidgcmlkofjaaGe
namespace Go.Proofs.Ytnmidgcmlkofjaa
open Go.RowKit Cw

set_option maxHeartbeats 1500000 in
theorem fieldOrders_law (P M : Int) (vm : Value) (mod : List Int) (x : Int) (w : World) (hvm : Sl w vm mod) :
    Calls Try.prog 10 #[.agg #[.int .i64 P, .int .i64 M, vm], .int .i64 x] w fun e w' => e = .returned (.bool true) ∧ Kept w w' := by
  have hk := kept_alloc w (.cells #[.int .i64 P, .int .i64 M, vm] 24)
  have bx0 := boxF_new w P M vm 24
  have sv := hvm.kept hk
  by_cases hf : FieldP P M mod
  case neg =>
    have HF := hid hf
    clear hf
    go_enter Try.func10, Try.ntmps10
    go_wp2_with (first
      | (go_at_call 17; (with_reducible refine (alive_any _).mono ?_); rintro e w1 ⟨rfl, ka⟩; have b1 := bx0.kept ka; have s1 := sv.kept ka; have hkA := hk.tr ka; have c3 := b1.h0; have c4 := b1.h1; have c5 := b1.h2)
      | (go_at_call 18; (with_reducible refine (made_no P M vm mod _ s1 HF.out).mono ?_); rintro e w2 ⟨rfl, k2⟩; have hkB := hkA.tr k2; have s2 := hvm.kept hkB; have b2 := b1.kept k2; have d0 := b2.h0; have d1 := b2.h1; have d2 := b2.h2)
      | (go_at_call 19; (with_reducible refine (none_any P M vm mod _ s2 HF.out).mono ?_); rintro e w3 ⟨rfl, k3⟩))
    go_ret
    exact ⟨rfl, hkB.tr k3⟩
  have HF := hid hf
  clear hf
  go_enter Try.func10, Try.ntmps10
  go_wp2_with (first
    | (go_at_call 17; (with_reducible refine (alive_any _).mono ?_); rintro e w1 ⟨rfl, ka⟩; have b1 := bx0.kept ka; have s1 := sv.kept ka; have hkA := hk.tr ka; have c3 := b1.h0; have c4 := b1.h1; have c5 := b1.h2)
    | (go_at_call 18; (with_reducible refine (made_yes P M vm mod _ s1 HF.out).mono ?_); rintro e w2 ⟨b, G, rfl, hg2, t2, gP, gM, gm, k2⟩; have hkC := hkA.tr k2; have s2 := s1.kept k2; have b2 := b1.kept k2; have d0 := b2.h0; have d1 := b2.h1; have d2 := b2.h2; have HO : Hid (Of G P M mod) := hid ⟨gP, gM, gm⟩; clear gP gM gm))
  by_cases hz : inn G.q x = 0
  · have HZ := hid hz
    clear hz
    go_wp2_with (first
      | (go_at_call 33; (with_reducible refine (mulOrder_zero b G x _ (by first | exact hg2 | exact hg2.drew | exact hg2.drewN _ | exact hg2.drew.drewN _) HZ.out).mono ?_); rintro e w11 ⟨rfl, n11, rfl⟩)
      | (go_at_call 40; (with_reducible refine (rMulOrder_any G t2 P M mod vm x _ HO (s2.kept (by first | exact Kept.rfl' _ | exact kept_drew _ | exact kept_drewN _ _ | exact (kept_drew _).drewN _))).mono ?_); rintro e w12 ⟨rfl, k12⟩; rw [if_pos HZ.out]; have kk12 := Kept.tr (a := w2) (by first | exact Kept.rfl' _ | exact kept_drew _ | exact kept_drewN _ _ | exact (kept_drew _).drewN _) k12; have hg12 := hg2.kept kk12; have b12 := b2.kept kk12; have s12 := s2.kept kk12; have hk12 := hkC.tr kk12; have x12 := b12.h0; have y12 := b12.h1; have z12 := b12.h2))
    go_ret
    exact ⟨ret_bool (by simp), Kept.tr hk12 (by first | exact Kept.rfl' _ | exact kept_drew _ | exact kept_drewN _ _ | exact (kept_drew _).drewN _)⟩
  · have HZ := hid hz
    clear hz
    obtain ⟨n, hn⟩ : ∃ n, n = ordG G x := ⟨_, rfl⟩
    have HN := hid hn.symm
    have n1 := t2.ord_pos x
    have n2 := t2.ord_le x
    have n3 := t2.ord_dvd' x
    rw [← hn] at n1 n2 n3
    clear hn
    obtain ⟨q1, q2, _, _, _, _, q7⟩ := t2.qb
    clear q7
    have tn : ((n : Int) == 0) = false := by simp; omega
    have td : ((G.q - 1) % (n : Int) == 0) = true := by
      obtain ⟨c, hc⟩ := n3
      have : G.q - 1 = (n : Int) * (c : Int) := by rw [← Int.natCast_mul, ← hc]; omega
      rw [this]; simp
    have te : (G.q - 1) % (n : Int) = 0 := by simpa using td
    have TE := hid te
    clear n3 te
    go_wp2_with (first
      | (go_at_call 33; (with_reducible refine (mulOrder_ok b G x _ (by first | exact hg2 | exact hg2.drew | exact hg2.drewN _ | exact hg2.drew.drewN _) t2 HZ.out).mono ?_); rintro e w11 ⟨rfl, n11, rfl⟩; rw [HN.out])
      | (go_at_call 40; (with_reducible refine (rMulOrder_any G t2 P M mod vm x _ HO (s2.kept (by first | exact Kept.rfl' _ | exact kept_drew _ | exact kept_drewN _ _ | exact (kept_drew _).drewN _))).mono ?_); rintro e w12 ⟨rfl, k12⟩; rw [if_neg HZ.out, HN.out]; have kk12 := Kept.tr (a := w2) (by first | exact Kept.rfl' _ | exact kept_drew _ | exact kept_drewN _ _ | exact (kept_drew _).drewN _) k12; have hg12 := hg2.kept kk12; have b12 := b2.kept kk12; have s12 := s2.kept kk12; have hk12 := hkC.tr kk12; have x12 := b12.h0; have y12 := b12.h1; have z12 := b12.h2)
      | (go_at_call 41; (with_reducible refine (order'_any b G _ (by first | exact hg12 | exact hg12.drew | exact hg12.drewN _ | exact hg12.drew.drewN _)).mono ?_); rintro e w13 ⟨rfl, n13, rfl⟩))
    go_ret
    exact ⟨ret_bool (by simp), Kept.tr hk12 (by first | exact Kept.rfl' _ | exact kept_drew _ | exact kept_drewN _ _ | exact (kept_drew _).drewN _)⟩
end Go.Proofs.Ytnmidgcmlkofjaa
