/- The walk of the law FieldChecks. No conditions. -/
import Derived.Test.YtnmidgcmlkofjaaLc
import Derived.Test.YtnmidgcmlkofjaaGf
import Derived.Test.YtnmidgcmlkofjaaGg
import Derived.Test.YtnmidgcmlkofjaaGc
import Derived.Test.YtnmidgcmlkofjaaSa
import Derived.Test.YtnmidgcmlkofjaaRg
import Derived.Deep.RegionHeld3
namespace Go.Proofs.Ytnmidgcmlkofjaa
open Go.RowKit Cw

set_option maxHeartbeats 2000000 in
theorem fieldChecks_law (P M : Int) (vm : Value) (mod : List Int) (x : Int) (w : World) (hvm : Sl w vm mod) :
    Calls Try.prog 14 #[.agg #[.int .i64 P, .int .i64 M, vm], .int .i64 x] w fun e w' => e = .returned (.bool true) ∧ Kept w w' := by
  have hk := kept_alloc w (.cells #[.int .i64 P, .int .i64 M, vm] 24)
  have bx0 := boxF_new w P M vm 24
  have sv := hvm.kept hk
  by_cases hf : FieldP P M mod
  case neg =>
    have HF := hid hf
    have HC : Hid (¬ CheckP P M mod) := hid (fun h => hf ((field_check P M mod).2 h))
    clear hf
    go_enter Try.func14, Try.ntmps14
    go_wp2_with (first
      | (go_at_call 17; (with_reducible refine (alive_any _).mono ?_); rintro e w1 ⟨rfl, ka⟩; have b1 := bx0.kept ka; have s1 := sv.kept ka; have hkA := hk.tr ka; have c3 := b1.h0; have c4 := b1.h1; have c5 := b1.h2)
      | (go_at_call 47; (with_reducible refine (rCheck_any P M vm mod _ s1 1 (.inr ⟨HC.out, rfl⟩)).mono ?_); rintro e w2 ⟨rfl, k2⟩; have s2 := s1.kept k2; have b2 := b1.kept k2; have x2 := b2.h0; have y2 := b2.h1; have z2 := b2.h2)
      | (go_at_call 48; (with_reducible refine (new_no P M vm mod _ s2 HF.out).mono ?_); rintro e w3 ⟨rfl, k3⟩; have s3 := s2.kept k3; have b3 := b2.kept k3; have x3 := b3.h0; have y3 := b3.h1; have z3 := b3.h2)
      | (go_at_call 49; (with_reducible refine (check_any P M vm mod _ s3 1 (.inr ⟨HF.out, rfl⟩)).mono ?_); rintro e w4 ⟨rfl, k4⟩; have s4 := s3.kept k4; have b4 := b3.kept k4; have x4 := b4.h0; have y4 := b4.h1; have z4 := b4.h2))
    go_ret
    exact ⟨rfl, ((hkA.tr k2).tr k3).tr k4⟩
  have HF := hid hf
  clear hf
  go_enter Try.func14, Try.ntmps14
  go_wp2_with (first
    | (go_at_call 17; (with_reducible refine (alive_any _).mono ?_); rintro e w1 ⟨rfl, ka⟩; have b1 := bx0.kept ka; have s1 := sv.kept ka; have hkA := hk.tr ka; have c3 := b1.h0; have c4 := b1.h1; have c5 := b1.h2)
    | (go_at_call 47; (with_reducible refine (rCheck_any P M vm mod _ s1 0 (.inl ⟨(field_check P M mod).1 HF.out, rfl⟩)).mono ?_); rintro e w2 ⟨rfl, k2⟩; have s2 := s1.kept k2; have b2 := b1.kept k2; have x2 := b2.h0; have y2 := b2.h1; have z2 := b2.h2)
    | (go_at_call 48; (with_reducible refine (new_field P M vm mod _ s2 HF.out).mono ?_); rintro e w3 ⟨b, G, rfl, hg3, t2, gP, gM, gm, k3⟩; have s3 := s2.kept k3; have b3 := b2.kept k3; have x3 := b3.h0; have y3 := b3.h1; have z3 := b3.h2; have HO : Hid (Of G P M mod) := hid ⟨gP, gM, gm⟩; clear gP gM gm)
    | (go_at_call 49; (with_reducible refine (check_any P M vm mod _ s3 0 (.inl ⟨HF.out, rfl⟩)).mono ?_); rintro e w4 ⟨rfl, k4⟩; have s4 := s3.kept k4; have b4 := b3.kept k4; have x4 := b4.h0; have y4 := b4.h1; have z4 := b4.h2; have hg4 := hg3.kept k4))
  have hk4 := ((hkA.tr k2).tr k3).tr k4
  have HQ : Hid (ordS P M = G.q) := hid (by rw [← HO.out.1, ← HO.out.2.1, ← t2.hq])
  have HS : Hid (G.P = P ∧ G.M = M ∧ G.mod = mod) := hid HO.out
  by_cases hx : 0 ≤ x ∧ x < G.q
  · have HI : Hid (0 ≤ x ∧ x < ordS P M) := hid (by rw [HQ.out]; exact hx)
    obtain ⟨hx1, hx2⟩ := hx
    go_region_held3 (fun w' => w'.cell? ⟨w.heap.size, 0, none⟩ = some (.int .i64 P) ∧ w'.cell? ⟨w.heap.size, 1, none⟩ = some (.int .i64 M) ∧ w'.cell? ⟨w.heap.size, 2, none⟩ = some vm) (first | (simp [go_sem]; done) | (simp [*]; done))
      (first
        | (go_at_call 50; (with_reducible refine (gfField_any b G _ (by first | exact hg4 | exact hg4.drew | exact hg4.drewN _ | exact hg4.drew.drewN _) t2).mono ?_); rintro e w11 ⟨g11, c11, rfl, sl11, k11⟩; have kk11 := Kept.tr (a := w4) (by first | exact Kept.rfl' _ | exact kept_drew _ | exact kept_drewN _ _ | exact (kept_drew _).drewN _) k11; have hg11 := hg4.kept kk11; have b11 := b4.kept kk11; have s11 := s4.kept kk11; have hk11 := hk4.tr kk11; have x11 := b11.h0; have y11 := b11.h1; have z11 := b11.h2)
        | (go_at_call 26; (with_reducible refine (same_any G.P G.M _ G.mod P M vm mod _ (sl11.kept (by first | exact Kept.rfl' _ | exact kept_drew _ | exact kept_drewN _ _ | exact (kept_drew _).drewN _)) (s11.kept (by first | exact Kept.rfl' _ | exact kept_drew _ | exact kept_drewN _ _ | exact (kept_drew _).drewN _)) true ⟨fun _ => HS.out, fun _ => rfl⟩).mono ?_); rintro e w12 ⟨rfl, k12⟩; have kk12 := Kept.tr (a := w11) (by first | exact Kept.rfl' _ | exact kept_drew _ | exact kept_drewN _ _ | exact (kept_drew _).drewN _) k12; have hg12 := hg11.kept kk12; have b12 := b11.kept kk12; have s12 := s11.kept kk12; have hk12 := hk11.tr kk12; have x12 := b12.h0; have y12 := b12.h1; have z12 := b12.h2)
        | (go_at_call 50; (with_reducible refine (gfField_any b G _ (by first | exact hg12 | exact hg12.drew | exact hg12.drewN _ | exact hg12.drew.drewN _) t2).mono ?_); rintro e w13 ⟨g13, c13, rfl, sl13, k13⟩; have kk13 := Kept.tr (a := w12) (by first | exact Kept.rfl' _ | exact kept_drew _ | exact kept_drewN _ _ | exact (kept_drew _).drewN _) k13; have hg13 := hg12.kept kk13; have b13 := b12.kept kk13; have s13 := s12.kept kk13; have hk13 := hk12.tr kk13; have x13 := b13.h0; have y13 := b13.h1; have z13 := b13.h2)
        | (go_at_call 27; (with_reducible refine (rSame_any G.P G.M _ G.mod P M vm mod _ (sl13.kept (by first | exact Kept.rfl' _ | exact kept_drew _ | exact kept_drewN _ _ | exact (kept_drew _).drewN _)) (s13.kept (by first | exact Kept.rfl' _ | exact kept_drew _ | exact kept_drewN _ _ | exact (kept_drew _).drewN _)) true ⟨fun _ => HS.out, fun _ => rfl⟩).mono ?_); rintro e w14 ⟨rfl, k14⟩; have kk14 := Kept.tr (a := w13) (by first | exact Kept.rfl' _ | exact kept_drew _ | exact kept_drewN _ _ | exact (kept_drew _).drewN _) k14; have hg14 := hg13.kept kk14; have b14 := b13.kept kk14; have s14 := s13.kept kk14; have hk14 := hk13.tr kk14; have x14 := b14.h0; have y14 := b14.h1; have z14 := b14.h2)
        | (go_at_call 41; (with_reducible refine (order'_any b G _ (by first | exact hg14 | exact hg14.drew | exact hg14.drewN _ | exact hg14.drew.drewN _)).mono ?_); rintro e w15 ⟨rfl, n15, rfl⟩)
        | (go_at_call 25; (with_reducible refine (rOrder_any P M vm _).mono ?_); rintro e w16 ⟨rfl, k16⟩; rw [HQ.out]; have kk16 := Kept.tr (a := w14) (by first | exact Kept.rfl' _ | exact kept_drew _ | exact kept_drewN _ _ | exact (kept_drew _).drewN _) k16; have hg16 := hg14.kept kk16; have b16 := b14.kept kk16; have s16 := s14.kept kk16; have hk16 := hk14.tr kk16; have x16 := b16.h0; have y16 := b16.h1; have z16 := b16.h2)
        | (go_at_call 44; (with_reducible refine (is_yes b G.q x _ (IsGF.hq (by first | exact hg16 | exact hg16.drew | exact hg16.drewN _ | exact hg16.drew.drewN _)) hx1 hx2).mono ?_); rintro e w17 ⟨rfl, n17, rfl⟩)
        | (go_at_call 51; (with_reducible refine (rIs_any P M vm x _ true ⟨fun _ => HI.out, fun _ => rfl⟩).mono ?_); rintro e w18 ⟨rfl, k18⟩; have kk18 := Kept.tr (a := w16) (by first | exact Kept.rfl' _ | exact kept_drew _ | exact kept_drewN _ _ | exact (kept_drew _).drewN _) k18; have hg18 := hg16.kept kk18; have b18 := b16.kept kk18; have s18 := s16.kept kk18; have hk18 := hk16.tr kk18; have x18 := b18.h0; have y18 := b18.h1; have z18 := b18.h2))
    go_wp2_with (fail)
    go_ret
    exact ⟨ret_bool (by simp), Kept.tr hk18 (by first | exact Kept.rfl' _ | exact kept_drew _ | exact kept_drewN _ _ | exact (kept_drew _).drewN _)⟩
  · have HI : Hid (¬ (0 ≤ x ∧ x < ordS P M)) := hid (by rw [HQ.out]; exact hx)
    have hx1 : x < 0 ∨ G.q ≤ x := by omega
    clear hx
    go_region_held3 (fun w' => w'.cell? ⟨w.heap.size, 0, none⟩ = some (.int .i64 P) ∧ w'.cell? ⟨w.heap.size, 1, none⟩ = some (.int .i64 M) ∧ w'.cell? ⟨w.heap.size, 2, none⟩ = some vm) (first | (simp [go_sem]; done) | (simp [*]; done))
      (first
        | (go_at_call 50; (with_reducible refine (gfField_any b G _ (by first | exact hg4 | exact hg4.drew | exact hg4.drewN _ | exact hg4.drew.drewN _) t2).mono ?_); rintro e w11 ⟨g11, c11, rfl, sl11, k11⟩; have kk11 := Kept.tr (a := w4) (by first | exact Kept.rfl' _ | exact kept_drew _ | exact kept_drewN _ _ | exact (kept_drew _).drewN _) k11; have hg11 := hg4.kept kk11; have b11 := b4.kept kk11; have s11 := s4.kept kk11; have hk11 := hk4.tr kk11; have x11 := b11.h0; have y11 := b11.h1; have z11 := b11.h2)
        | (go_at_call 26; (with_reducible refine (same_any G.P G.M _ G.mod P M vm mod _ (sl11.kept (by first | exact Kept.rfl' _ | exact kept_drew _ | exact kept_drewN _ _ | exact (kept_drew _).drewN _)) (s11.kept (by first | exact Kept.rfl' _ | exact kept_drew _ | exact kept_drewN _ _ | exact (kept_drew _).drewN _)) true ⟨fun _ => HS.out, fun _ => rfl⟩).mono ?_); rintro e w12 ⟨rfl, k12⟩; have kk12 := Kept.tr (a := w11) (by first | exact Kept.rfl' _ | exact kept_drew _ | exact kept_drewN _ _ | exact (kept_drew _).drewN _) k12; have hg12 := hg11.kept kk12; have b12 := b11.kept kk12; have s12 := s11.kept kk12; have hk12 := hk11.tr kk12; have x12 := b12.h0; have y12 := b12.h1; have z12 := b12.h2)
        | (go_at_call 50; (with_reducible refine (gfField_any b G _ (by first | exact hg12 | exact hg12.drew | exact hg12.drewN _ | exact hg12.drew.drewN _) t2).mono ?_); rintro e w13 ⟨g13, c13, rfl, sl13, k13⟩; have kk13 := Kept.tr (a := w12) (by first | exact Kept.rfl' _ | exact kept_drew _ | exact kept_drewN _ _ | exact (kept_drew _).drewN _) k13; have hg13 := hg12.kept kk13; have b13 := b12.kept kk13; have s13 := s12.kept kk13; have hk13 := hk12.tr kk13; have x13 := b13.h0; have y13 := b13.h1; have z13 := b13.h2)
        | (go_at_call 27; (with_reducible refine (rSame_any G.P G.M _ G.mod P M vm mod _ (sl13.kept (by first | exact Kept.rfl' _ | exact kept_drew _ | exact kept_drewN _ _ | exact (kept_drew _).drewN _)) (s13.kept (by first | exact Kept.rfl' _ | exact kept_drew _ | exact kept_drewN _ _ | exact (kept_drew _).drewN _)) true ⟨fun _ => HS.out, fun _ => rfl⟩).mono ?_); rintro e w14 ⟨rfl, k14⟩; have kk14 := Kept.tr (a := w13) (by first | exact Kept.rfl' _ | exact kept_drew _ | exact kept_drewN _ _ | exact (kept_drew _).drewN _) k14; have hg14 := hg13.kept kk14; have b14 := b13.kept kk14; have s14 := s13.kept kk14; have hk14 := hk13.tr kk14; have x14 := b14.h0; have y14 := b14.h1; have z14 := b14.h2)
        | (go_at_call 41; (with_reducible refine (order'_any b G _ (by first | exact hg14 | exact hg14.drew | exact hg14.drewN _ | exact hg14.drew.drewN _)).mono ?_); rintro e w15 ⟨rfl, n15, rfl⟩)
        | (go_at_call 25; (with_reducible refine (rOrder_any P M vm _).mono ?_); rintro e w16 ⟨rfl, k16⟩; rw [HQ.out]; have kk16 := Kept.tr (a := w14) (by first | exact Kept.rfl' _ | exact kept_drew _ | exact kept_drewN _ _ | exact (kept_drew _).drewN _) k16; have hg16 := hg14.kept kk16; have b16 := b14.kept kk16; have s16 := s14.kept kk16; have hk16 := hk14.tr kk16; have x16 := b16.h0; have y16 := b16.h1; have z16 := b16.h2)
        | (go_at_call 44; (with_reducible refine (is_no b G.q x _ (IsGF.hq (by first | exact hg16 | exact hg16.drew | exact hg16.drewN _ | exact hg16.drew.drewN _)) hx1).mono ?_); rintro e w17 ⟨rfl, n17, rfl⟩)
        | (go_at_call 51; (with_reducible refine (rIs_any P M vm x _ false ⟨fun h => (by cases h), fun h => absurd h HI.out⟩).mono ?_); rintro e w18 ⟨rfl, k18⟩; have kk18 := Kept.tr (a := w16) (by first | exact Kept.rfl' _ | exact kept_drew _ | exact kept_drewN _ _ | exact (kept_drew _).drewN _) k18; have hg18 := hg16.kept kk18; have b18 := b16.kept kk18; have s18 := s16.kept kk18; have hk18 := hk16.tr kk18; have x18 := b18.h0; have y18 := b18.h1; have z18 := b18.h2))
    go_wp2_with (fail)
    go_ret
    exact ⟨ret_bool (by simp), Kept.tr hk18 (by first | exact Kept.rfl' _ | exact kept_drew _ | exact kept_drewN _ _ | exact (kept_drew _).drewN _)⟩
end Go.Proofs.Ytnmidgcmlkofjaa
