/- The walk of the law FieldFrobenius. No conditions. -/
import Derived.Test.YtnmidgcmlkofjaaLc
import Derived.Test.YtnmidgcmlkofjaaMj
import Derived.Test.YtnmidgcmlkofjaaRg
import Derived.Test.YtnmidgcmlkofjaaGd
import Derived.Deep.RegionHeld3
namespace Go.Proofs.Ytnmidgcmlkofjaa
open Go.RowKit Cw

theorem pow_pos (b : Nat) (G : GFd) (x0 n : Int) (w : World) (hg : IsGF w b G) (ht : Tabs G) (hn : 0 < n) (hn2 : n ≤ 9223372036854775807) :
    Calls Try.prog 45 #[.pointer (some ⟨b, 0, none⟩), .int .i64 x0, .int .i64 n] w fun e w' => e = .returned (.tuple #[.int .i64 (powZ G x0 n), .int .i64 0]) ∧ ∃ m, w' = w.drewN m := by
  unfold powZ
  by_cases hx : inn G.q x0 = 0
  · rw [if_pos hx]; exact pow_nought b G x0 n w hg hx hn
  · rw [if_neg hx]; exact pow_ok b G x0 n w hg ht hx (by omega) (by omega) hn2

set_option maxHeartbeats 1500000 in
theorem fieldFrobenius_law (P M : Int) (vm : Value) (mod : List Int) (x y : Int) (w : World) (hvm : Sl w vm mod) :
    Calls Try.prog 13 #[.agg #[.int .i64 P, .int .i64 M, vm], .int .i64 x, .int .i64 y] w fun e w' => e = .returned (.bool true) ∧ Kept w w' := by
  have hk := kept_alloc w (.cells #[.int .i64 P, .int .i64 M, vm] 24)
  have bx0 := boxF_new w P M vm 24
  have sv := hvm.kept hk
  by_cases hf : FieldP P M mod
  case neg =>
    have HF := hid hf
    clear hf
    go_enter Try.func13, Try.ntmps13
    go_wp2_with (first
      | (go_at_call 17; (with_reducible refine (alive_any _).mono ?_); rintro e w1 ⟨rfl, ka⟩; have b1 := bx0.kept ka; have s1 := sv.kept ka; have hkA := hk.tr ka; have c3 := b1.h0; have c4 := b1.h1; have c5 := b1.h2)
      | (go_at_call 18; (with_reducible refine (made_no P M vm mod _ s1 HF.out).mono ?_); rintro e w2 ⟨rfl, k2⟩; have hkB := hkA.tr k2; have s2 := hvm.kept hkB; have b2 := b1.kept k2; have d0 := b2.h0; have d1 := b2.h1; have d2 := b2.h2)
      | (go_at_call 19; (with_reducible refine (none_any P M vm mod _ s2 HF.out).mono ?_); rintro e w3 ⟨rfl, k3⟩))
    go_ret
    exact ⟨rfl, hkB.tr k3⟩
  have HF := hid hf
  clear hf
  go_enter Try.func13, Try.ntmps13
  go_wp2_with (first
    | (go_at_call 17; (with_reducible refine (alive_any _).mono ?_); rintro e w1 ⟨rfl, ka⟩; have b1 := bx0.kept ka; have s1 := sv.kept ka; have hkA := hk.tr ka; have c3 := b1.h0; have c4 := b1.h1; have c5 := b1.h2)
    | (go_at_call 18; (with_reducible refine (made_yes P M vm mod _ s1 HF.out).mono ?_); rintro e w2 ⟨b, G, rfl, hg2, t2, gP, gM, gm, k2⟩; have hkC := hkA.tr k2; have s2 := s1.kept k2; have b2 := b1.kept k2; have d0 := b2.h0; have d1 := b2.h1; have d2 := b2.h2; have HO : Hid (Of G P M mod) := hid ⟨gP, gM, gm⟩; clear gP gM gm))
  have HQ : Hid (ordS P M = G.q) := hid (by rw [← HO.out.1, ← HO.out.2.1, ← t2.hq])
  obtain ⟨q1, q2, q3, q4, q5, q6, q7⟩ := t2.qb
  have hP := HO.out.1
  have p1 : 0 < P := by omega
  have p2 : P ≤ 9223372036854775807 := by omega
  have g1 : 0 < G.q := by omega
  have g2 : G.q ≤ 9223372036854775807 := by omega
  have HFR : Hid (powZ G (addG G x y) P = addG G (powZ G x P) (powZ G y P)) := hid (by rw [← hP]; exact t2.frobZ x y)
  have HFE : Hid (powZ G x G.q = inn G.q x) := hid (t2.fermatZ x)
  clear q7 hP
  go_wp2_with (first
    | (go_at_call 45; (with_reducible refine (pow_pos b G x P _ (by first | exact hg2 | exact hg2.drew | exact hg2.drewN _ | exact hg2.drew.drewN _) t2 p1 p2).mono ?_); rintro e w11 ⟨rfl, n11, rfl⟩)
    | (go_at_call 45; (with_reducible refine (pow_pos b G y P _ (by first | exact hg2 | exact hg2.drew | exact hg2.drewN _ | exact hg2.drew.drewN _) t2 p1 p2).mono ?_); rintro e w12 ⟨rfl, n12, rfl⟩))
  go_region_held3 (fun w' => w'.cell? ⟨w.heap.size, 0, none⟩ = some (.int .i64 P) ∧ w'.cell? ⟨w.heap.size, 1, none⟩ = some (.int .i64 M) ∧ w'.cell? ⟨w.heap.size, 2, none⟩ = some vm) (first | (simp [go_sem]; done) | (simp [*]; done))
    (first
      | (go_at_call 22; (with_reducible refine (add_any b G x y _ (by first | exact hg2 | exact hg2.drew | exact hg2.drewN _ | exact hg2.drew.drewN _) t2).mono ?_); rintro e w13 ⟨rfl, n13, rfl⟩)
      | (go_at_call 45; (with_reducible refine (pow_pos b G (addG G x y) P _ (by first | exact hg2 | exact hg2.drew | exact hg2.drewN _ | exact hg2.drew.drewN _) t2 p1 p2).mono ?_); rintro e w14 ⟨rfl, n14, rfl⟩; rw [HFR.out]))
  go_wp2_with (first
    | (go_at_call 41; (with_reducible refine (order'_any b G _ (by first | exact hg2 | exact hg2.drew | exact hg2.drewN _ | exact hg2.drew.drewN _)).mono ?_); rintro e w15 ⟨rfl, n15, rfl⟩)
    | (go_at_call 45; (with_reducible refine (pow_pos b G x G.q _ (by first | exact hg2 | exact hg2.drew | exact hg2.drewN _ | exact hg2.drew.drewN _) t2 g1 g2).mono ?_); rintro e w16 ⟨rfl, n16, rfl⟩; rw [HFE.out])
    | (go_at_call 22; (with_reducible refine (add_any b G (powZ G x P) (powZ G y P) _ (by first | exact hg2 | exact hg2.drew | exact hg2.drewN _ | exact hg2.drew.drewN _) t2).mono ?_); rintro e w17 ⟨rfl, n17, rfl⟩)
    | (go_at_call 23; (with_reducible refine (rIn_any P M vm x _).mono ?_); rintro e w18 ⟨rfl, k18⟩; rw [HQ.out]; have kk18 := Kept.tr (a := w2) (by first | exact Kept.rfl' _ | exact kept_drew _ | exact kept_drewN _ _ | exact (kept_drew _).drewN _) k18; have hg18 := hg2.kept kk18; have b18 := b2.kept kk18; have s18 := s2.kept kk18; have hk18 := hkC.tr kk18; have x18 := b18.h0; have y18 := b18.h1; have z18 := b18.h2))
  go_ret
  exact ⟨ret_bool (by simp), Kept.tr hk18 (by first | exact Kept.rfl' _ | exact kept_drew _ | exact kept_drewN _ _ | exact (kept_drew _).drewN _)⟩
end Go.Proofs.Ytnmidgcmlkofjaa
