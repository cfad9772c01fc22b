/- The walk of the laws' examples: alive. No conditions. -/
import Derived.Test.YtnmidgcmlkofjaaSb
import Derived.Test.YtnmidgcmlkofjaaAl
import Derived.Test.YtnmidgcmlkofjaaGb
namespace Go.Proofs.Ytnmidgcmlkofjaa
open Go.RowKit Cw

theorem sl_new2 (w : World) (x y : Int) (T : TypeId) : Sl (w.alloc (.cells #[.int .i64 x, .int .i64 y] T)) (.slice (some ⟨w.heap.size, 0, none⟩) 2 2) [x, y] := by
  refine ⟨_, 2, rfl, by simp, ⟨by unfold maxLen; omega, fun h => by cases h⟩, fun _ => ⟨_, 0, rfl, by simp, fun i hi => ?_⟩⟩
  have : i = 0 ∨ i = 1 := by simp at hi; omega
  rcases this with rfl | rfl <;> simp

set_option maxHeartbeats 1000000 in
theorem alive_any (w : World) : Calls Try.prog 17 #[] w fun e w' => e = .returned (.bool true) ∧ Kept w w' := by
  have k0 := kept_alloc w (.cells #[.int .i64 1, .int .i64 1] 3)
  have s0 := sl_new2 w 1 1 3
  go_enter Try.func17, Try.ntmps17
  go_wp2_with (first
    | (go_at_call 48; (with_reducible refine (new_field 2 2 _ [1, 1] _ s0 field4).mono ?_); rintro e w1 ⟨b1, G1, rfl, g1, t1, p1, m1, o1, k1⟩; have hk1 := k0.tr k1; have hg1 := g1.kept (kept_alloc w1 (.cells #[.int .i64 1, .int .i64 0] 3)); have s1 := sl_new2 w1 1 0 3; obtain ⟨a1, a2, a3⟩ := alive4 t1 p1 m1 o1)
    | (go_at_call 48; (with_reducible refine (new_field 3 2 _ [1, 0] _ s1 field9).mono ?_); rintro e w2 ⟨b2, G2, rfl, g2, t2, p2, m2, o2, k2⟩; have hg2 := hg1.kept k2; have hk2 := (hk1.tr (kept_alloc w1 (.cells #[.int .i64 1, .int .i64 0] 3))).tr k2; have a4 := alive9 t2 p2 m2 o2; clear p1 m1 o1 p2 m2 o2 k0 k1 k2 s0 s1 g1 hg1)
    | (go_at_call 22; (with_reducible refine (add_any b1 G1 2 3 _ hg2 t1).mono ?_); rintro e w3 ⟨rfl, n3, rfl⟩; rw [a1])
    | (go_at_call 20; (with_reducible refine (mul_any b1 G1 2 2 _ (hg2.drewN _) t1).mono ?_); rintro e w4 ⟨rfl, n4, rfl⟩; rw [a2])
    | (go_at_call 20; (with_reducible refine (mul_any b1 G1 2 3 _ (hg2.drewN _) t1).mono ?_); rintro e w5 ⟨rfl, n5, rfl⟩; rw [a3])
    | (go_at_call 20; (with_reducible refine (mul_any b2 G2 3 3 _ (g2.drewN _) t2).mono ?_); rintro e w6 ⟨rfl, n6, rfl⟩; rw [a4]))
  go_ret
  exact ⟨rfl, hk2.drewN _⟩
end Go.Proofs.Ytnmidgcmlkofjaa
