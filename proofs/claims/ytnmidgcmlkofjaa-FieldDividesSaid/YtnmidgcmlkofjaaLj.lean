/- The walk of the law FieldDivides. No conditions. -/
import Derived.Test.YtnmidgcmlkofjaaLc
import Derived.Test.YtnmidgcmlkofjaaRg
import Derived.Test.YtnmidgcmlkofjaaGc
import Derived.Test.YtnmidgcmlkofjaaMo
import Derived.Deep.RegionHeld3
namespace Go.Proofs.Ytnmidgcmlkofjaa
open Go.RowKit Cw

set_option maxHeartbeats 1500000 in
theorem fieldDivides_law (P M : Int) (vm : Value) (mod : List Int) (x y : Int) (w : World) (hvm : Sl w vm mod) :
    Calls Try.prog 11 #[.agg #[.int .i64 P, .int .i64 M, vm], .int .i64 x, .int .i64 y] w fun e w' => e = .returned (.bool true) ∧ Kept w w' := by
  have hk := kept_alloc w (.cells #[.int .i64 P, .int .i64 M, vm] 24)
  have bx0 := boxF_new w P M vm 24
  have sv := hvm.kept hk
  by_cases hf : FieldP P M mod
  case neg =>
    have HF := hid hf
    clear hf
    go_enter Try.func11, Try.ntmps11
    go_wp2_with (first
      | (go_at_call 17; (with_reducible refine (alive_any _).mono ?_); rintro e w1 ⟨rfl, ka⟩; have b1 := bx0.kept ka; have s1 := sv.kept ka; have hkA := hk.tr ka; have c3 := b1.h0; have c4 := b1.h1; have c5 := b1.h2)
      | (go_at_call 18; (with_reducible refine (made_no P M vm mod _ s1 HF.out).mono ?_); rintro e w2 ⟨rfl, k2⟩; have hkB := hkA.tr k2; have s2 := hvm.kept hkB; have b2 := b1.kept k2; have d0 := b2.h0; have d1 := b2.h1; have d2 := b2.h2)
      | (go_at_call 19; (with_reducible refine (none_any P M vm mod _ s2 HF.out).mono ?_); rintro e w3 ⟨rfl, k3⟩))
    go_ret
    exact ⟨rfl, hkB.tr k3⟩
  have HF := hid hf
  clear hf
  go_enter Try.func11, Try.ntmps11
  go_wp2_with (first
    | (go_at_call 17; (with_reducible refine (alive_any _).mono ?_); rintro e w1 ⟨rfl, ka⟩; have b1 := bx0.kept ka; have s1 := sv.kept ka; have hkA := hk.tr ka; have c3 := b1.h0; have c4 := b1.h1; have c5 := b1.h2)
    | (go_at_call 18; (with_reducible refine (made_yes P M vm mod _ s1 HF.out).mono ?_); rintro e w2 ⟨b, G, rfl, hg2, t2, gP, gM, gm, k2⟩; have hkC := hkA.tr k2; have s2 := s1.kept k2; have b2 := b1.kept k2; have d0 := b2.h0; have d1 := b2.h1; have d2 := b2.h2; have HO : Hid (Of G P M mod) := hid ⟨gP, gM, gm⟩; clear gP gM gm))
  have HQ : Hid (ordS P M = G.q) := hid (by rw [← HO.out.1, ← HO.out.2.1, ← t2.hq])
  go_region_held3 (fun w' => w'.cell? ⟨w.heap.size, 0, none⟩ = some (.int .i64 P) ∧ w'.cell? ⟨w.heap.size, 1, none⟩ = some (.int .i64 M) ∧ w'.cell? ⟨w.heap.size, 2, none⟩ = some vm) (first | (simp [go_sem]; done) | (simp [*]; done))
    (first
      | (go_at_call 23; (with_reducible refine (rIn_any P M vm x _).mono ?_); rintro e w11 ⟨rfl, k11⟩; rw [HQ.out]; have kk11 := Kept.tr (a := w2) (by first | exact Kept.rfl' _ | exact kept_drew _ | exact kept_drewN _ _ | exact (kept_drew _).drewN _) k11; have hg11 := hg2.kept kk11; have b11 := b2.kept kk11; have s11 := s2.kept kk11; have hk11 := hkC.tr kk11; have x11 := b11.h0; have y11 := b11.h1; have z11 := b11.h2)
      | (go_at_call 23; (with_reducible refine (rIn_any P M vm y _).mono ?_); rintro e w12 ⟨rfl, k12⟩; rw [HQ.out]; have kk12 := Kept.tr (a := w11) (by first | exact Kept.rfl' _ | exact kept_drew _ | exact kept_drewN _ _ | exact (kept_drew _).drewN _) k12; have hg12 := hg11.kept kk12; have b12 := b11.kept kk12; have s12 := s11.kept kk12; have hk12 := hk11.tr kk12; have x12 := b12.h0; have y12 := b12.h1; have z12 := b12.h2))
  by_cases hz : inn G.q y = 0
  · have HZ := hid hz
    rw [hz]
    clear hz
    go_wp2_with (first
      | (go_at_call 42; (with_reducible refine (inv_zero b G y _ (by first | exact hg12 | exact hg12.drew | exact hg12.drewN _ | exact hg12.drew.drewN _) HZ.out).mono ?_); rintro e w11 ⟨rfl, n11, rfl⟩)
      | (go_at_call 43; (with_reducible refine (div_zero b G x y _ (by first | exact hg12 | exact hg12.drew | exact hg12.drewN _ | exact hg12.drew.drewN _) HZ.out).mono ?_); rintro e w12 ⟨rfl, n12, rfl⟩))
    go_ret
    exact ⟨ret_bool (by simp), Kept.tr hk12 (by first | exact Kept.rfl' _ | exact kept_drew _ | exact kept_drewN _ _ | exact (kept_drew _).drewN _)⟩
  · have HZ := hid hz
    have tz : (inn G.q y == 0) = false := by simpa using hz
    have I := t2.inv_bd y
    have J := t2.mul_bd x (invG G y)
    obtain ⟨I1, I2⟩ := I
    obtain ⟨J1, J2⟩ := J
    have HI : Hid (mulG G (invG G y) (inn G.q y) = 1) := hid (t2.inv_back hz)
    have HJ : Hid (mulG G (mulG G x (invG G y)) (inn G.q y) = inn G.q x) := hid (t2.div_back x hz)
    obtain ⟨iv, hiv⟩ : ∃ v, v = invG G y := ⟨_, rfl⟩
    obtain ⟨qv, hqv⟩ : ∃ v, v = mulG G x (invG G y) := ⟨_, rfl⟩
    have HIV : Hid (invG G y = iv) := hid hiv.symm
    have HQV : Hid (mulG G x (invG G y) = qv) := hid hqv.symm
    rw [← hqv] at HJ J1 J2
    rw [← hiv] at HI I1 I2
    clear hz hiv hqv
    go_wp2_with (first
      | (go_at_call 42; (with_reducible refine (inv_ok b G y _ (by first | exact hg12 | exact hg12.drew | exact hg12.drewN _ | exact hg12.drew.drewN _) t2 HZ.out).mono ?_); rintro e w11 ⟨rfl, n11, rfl⟩; rw [HIV.out])
      | (go_at_call 43; (with_reducible refine (div_ok b G x y _ (by first | exact hg12 | exact hg12.drew | exact hg12.drewN _ | exact hg12.drew.drewN _) t2 HZ.out).mono ?_); rintro e w12 ⟨rfl, n12, rfl⟩; rw [HQV.out])
      | (go_at_call 44; (with_reducible refine (is_yes b G.q iv _ (IsGF.hq (by first | exact hg12 | exact hg12.drew | exact hg12.drewN _ | exact hg12.drew.drewN _)) I1 I2).mono ?_); rintro e w13 ⟨rfl, n13, rfl⟩)
      | (go_at_call 44; (with_reducible refine (is_yes b G.q qv _ (IsGF.hq (by first | exact hg12 | exact hg12.drew | exact hg12.drewN _ | exact hg12.drew.drewN _)) J1 J2).mono ?_); rintro e w14 ⟨rfl, n14, rfl⟩)
      | (go_at_call 21; (with_reducible refine (rMul_field G t2 P M mod vm iv (inn G.q y) _ HO.out (s12.kept (by first | exact Kept.rfl' _ | exact kept_drew _ | exact kept_drewN _ _ | exact (kept_drew _).drewN _))).mono ?_); rintro e w15 ⟨rfl, k15⟩; rw [HI.out]; have kk15 := Kept.tr (a := w12) (by first | exact Kept.rfl' _ | exact kept_drew _ | exact kept_drewN _ _ | exact (kept_drew _).drewN _) k15; have hg15 := hg12.kept kk15; have b15 := b12.kept kk15; have s15 := s12.kept kk15; have hk15 := hk12.tr kk15; have x15 := b15.h0; have y15 := b15.h1; have z15 := b15.h2)
      | (go_at_call 21; (with_reducible refine (rMul_field G t2 P M mod vm qv (inn G.q y) _ HO.out (s15.kept (by first | exact Kept.rfl' _ | exact kept_drew _ | exact kept_drewN _ _ | exact (kept_drew _).drewN _))).mono ?_); rintro e w16 ⟨rfl, k16⟩; rw [HJ.out]; have kk16 := Kept.tr (a := w15) (by first | exact Kept.rfl' _ | exact kept_drew _ | exact kept_drewN _ _ | exact (kept_drew _).drewN _) k16; have hg16 := hg15.kept kk16; have b16 := b15.kept kk16; have s16 := s15.kept kk16; have hk16 := hk15.tr kk16; have x16 := b16.h0; have y16 := b16.h1; have z16 := b16.h2))
    go_ret
    exact ⟨ret_bool (by simp), Kept.tr hk16 (by first | exact Kept.rfl' _ | exact kept_drew _ | exact kept_drewN _ _ | exact (kept_drew _).drewN _)⟩
end Go.Proofs.Ytnmidgcmlkofjaa
