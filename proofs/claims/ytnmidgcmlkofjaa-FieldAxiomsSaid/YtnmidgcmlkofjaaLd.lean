/- The walk of the law FieldAxioms. No conditions. -/
import Derived.Test.YtnmidgcmlkofjaaLc
import Derived.Test.YtnmidgcmlkofjaaMh
import Derived.Test.YtnmidgcmlkofjaaGb
namespace Go.Proofs.Ytnmidgcmlkofjaa
open Go.RowKit Cw

set_option maxHeartbeats 1500000 in
theorem fieldAxioms_law (P M : Int) (vm : Value) (mod : List Int) (x y z : Int) (w : World) (hvm : Sl w vm mod) :
    Calls Try.prog 4 #[.agg #[.int .i64 P, .int .i64 M, vm], .agg #[.int .i64 x, .int .i64 y, .int .i64 z]] w fun e w' => e = .returned (.bool true) ∧ Kept w w' := by
  have hk0 := kept_alloc w (.cells #[.int .i64 P, .int .i64 M, vm] 24)
  have hk1 := kept_alloc (w.alloc (.cells #[.int .i64 P, .int .i64 M, vm] 24)) (.cells #[.int .i64 x, .int .i64 y, .int .i64 z] 33)
  have hk := hk0.tr hk1
  have bx0 := (boxF_new w P M vm 24).kept hk1
  have sv := hvm.kept hk
  have b3 : BoxF ((w.alloc (.cells #[.int .i64 P, .int .i64 M, vm] 24)).alloc (.cells #[.int .i64 x, .int .i64 y, .int .i64 z] 33)) (w.heap.size + 1) x y (.int .i64 z) := ⟨by simp, by simp, by simp, by simp⟩
  go_enter Try.func4, Try.ntmps4
  go_wp2_with (go_at_call 17; refine (alive_any _).mono ?_; rintro e w1 ⟨rfl, ka⟩; have b1 := bx0.kept ka; have b4 := b3.kept ka; have s1 := sv.kept ka; have hkA := hk.tr ka)
  have c0 := b4.h0
  have c1 := b4.h1
  have c2 := b4.h2
  have c3 := b1.h0
  have c4 := b1.h1
  have c5 := b1.h2
  go_quiet (fail)
  by_cases hf : FieldP P M mod
  case neg =>
    have HF := hid hf
    clear hf
    go_wp2_with (first
      | (go_at_call 18; refine (made_no P M vm mod _ (s1.kept (by first | exact kept_drewN _ _ | exact kept_drew _)) HF.out).mono ?_; rintro e w2 ⟨rfl, k2⟩; have hkB := (hkA.drewN _).tr k2; have s2 := hvm.kept hkB; have b2 := (b1.drewN _).kept k2; have d0 := b2.h0; have d1 := b2.h1; have d2 := b2.h2)
      | (go_at_call 19; refine (none_any P M vm mod _ s2 HF.out).mono ?_; rintro e w3 ⟨rfl, k3⟩))
    go_ret
    exact ⟨rfl, hkB.tr k3⟩
  have HF := hid hf
  clear hf
  go_wp2_with (first
    | (go_at_call 18; refine (made_yes P M vm mod _ (s1.kept (by first | exact kept_drewN _ _ | exact kept_drew _)) HF.out).mono ?_; rintro e w2 ⟨b, G, rfl, hg2, t2, gP, gM, gm, k2⟩; have hkC := (hkA.drewN _).tr k2; have b2 := (b1.drewN _).kept k2; have d0 := b2.h0; have d1 := b2.h1; have d2 := b2.h2; have HQ : Hid (ordS P M = G.q) := hid (by rw [t2.hq, gP, gM]); clear gP gM gm)
    | (go_at_call 22; (with_reducible refine (add_any b G (x) (0) _ (by first | exact hg2 | exact hg2.drewN _ | exact hg4 | exact hg4.drewN _) t2).mono ?_); rintro e w9 ⟨rfl, n9, rfl⟩; rw [t2.add_zero])
    | (go_at_call 23; refine (rIn_any P M vm x _).mono ?_; rintro e w4 ⟨rfl, k4⟩; rw [HQ.out]; have hg4 := hg2.kept ((kept_drewN _ _).tr k4); have hkD := (hkC.drewN _).tr k4)
    | (go_at_call 20; (with_reducible refine (mul_any b G (x) (1) _ (by first | exact hg2 | exact hg2.drewN _ | exact hg4 | exact hg4.drewN _) t2).mono ?_); rintro e w9 ⟨rfl, n9, rfl⟩; rw [t2.mul_one])
    | (go_at_call 22; (with_reducible refine (add_any b G (x) (y) _ (by first | exact hg2 | exact hg2.drewN _ | exact hg4 | exact hg4.drewN _) t2).mono ?_); rintro e w9 ⟨rfl, n9, rfl⟩)
    | (go_at_call 22; (with_reducible refine (add_any b G (y) (x) _ (by first | exact hg2 | exact hg2.drewN _ | exact hg4 | exact hg4.drewN _) t2).mono ?_); rintro e w9 ⟨rfl, n9, rfl⟩; rw [t2.add_comm y x])
    | (go_at_call 20; (with_reducible refine (mul_any b G (x) (y) _ (by first | exact hg2 | exact hg2.drewN _ | exact hg4 | exact hg4.drewN _) t2).mono ?_); rintro e w9 ⟨rfl, n9, rfl⟩)
    | (go_at_call 20; (with_reducible refine (mul_any b G (y) (x) _ (by first | exact hg2 | exact hg2.drewN _ | exact hg4 | exact hg4.drewN _) t2).mono ?_); rintro e w9 ⟨rfl, n9, rfl⟩; rw [t2.mul_comm y x])
    | (go_at_call 22; (with_reducible refine (add_any b G (addG G x y) (z) _ (by first | exact hg2 | exact hg2.drewN _ | exact hg4 | exact hg4.drewN _) t2).mono ?_); rintro e w9 ⟨rfl, n9, rfl⟩; rw [t2.add_assoc])
    | (go_at_call 22; (with_reducible refine (add_any b G (y) (z) _ (by first | exact hg2 | exact hg2.drewN _ | exact hg4 | exact hg4.drewN _) t2).mono ?_); rintro e w9 ⟨rfl, n9, rfl⟩)
    | (go_at_call 22; (with_reducible refine (add_any b G (x) (addG G y z) _ (by first | exact hg2 | exact hg2.drewN _ | exact hg4 | exact hg4.drewN _) t2).mono ?_); rintro e w9 ⟨rfl, n9, rfl⟩)
    | (go_at_call 20; (with_reducible refine (mul_any b G (mulG G x y) (z) _ (by first | exact hg2 | exact hg2.drewN _ | exact hg4 | exact hg4.drewN _) t2).mono ?_); rintro e w9 ⟨rfl, n9, rfl⟩; rw [t2.mul_assoc])
    | (go_at_call 20; (with_reducible refine (mul_any b G (y) (z) _ (by first | exact hg2 | exact hg2.drewN _ | exact hg4 | exact hg4.drewN _) t2).mono ?_); rintro e w9 ⟨rfl, n9, rfl⟩)
    | (go_at_call 20; (with_reducible refine (mul_any b G (x) (mulG G y z) _ (by first | exact hg2 | exact hg2.drewN _ | exact hg4 | exact hg4.drewN _) t2).mono ?_); rintro e w9 ⟨rfl, n9, rfl⟩)
    | (go_at_call 20; (with_reducible refine (mul_any b G (x) (addG G y z) _ (by first | exact hg2 | exact hg2.drewN _ | exact hg4 | exact hg4.drewN _) t2).mono ?_); rintro e w9 ⟨rfl, n9, rfl⟩; rw [t2.mul_add])
    | (go_at_call 20; (with_reducible refine (mul_any b G (x) (z) _ (by first | exact hg2 | exact hg2.drewN _ | exact hg4 | exact hg4.drewN _) t2).mono ?_); rintro e w9 ⟨rfl, n9, rfl⟩)
    | (go_at_call 22; (with_reducible refine (add_any b G (mulG G x y) (mulG G x z) _ (by first | exact hg2 | exact hg2.drewN _ | exact hg4 | exact hg4.drewN _) t2).mono ?_); rintro e w9 ⟨rfl, n9, rfl⟩))
  go_ret
  exact ⟨rfl, hkD.drewN _⟩
end Go.Proofs.Ytnmidgcmlkofjaa
