/- The walk of the laws' alive (chapter 05). No conditions. -/
import Derived.Test.YtjoednmoginhpaaNb
namespace Go.Proofs.Ytjoednmoginhpaa
open Go.RowKit Cw

theorem sll_two (w : World) (a1 a2 : Option Addr) (c1 c2 : Nat) (l1 l2 : List Int) (T : TypeId) (h1 : Sl w (.slice a1 l1.length c1) l1) (h2 : Sl w (.slice a2 l2.length c2) l2) :
    SlL (w.alloc (.cells #[.slice a1 l1.length c1, .slice a2 l2.length c2] T)) (.slice (some ⟨w.heap.size, 0, none⟩) 2 2) [l1, l2] := by
  have k := kept_alloc w (.cells #[.slice a1 l1.length c1, .slice a2 l2.length c2] T)
  refine ⟨_, 2, rfl, by simp, by unfold maxLen; omega, fun _ => ⟨_, 0, rfl, by simp, fun i hi => ?_⟩⟩
  have : i = 0 ∨ i = 1 := by simp at hi; omega
  rcases this with rfl | rfl
  · exact ⟨a1, c1, by simp, h1.kept k⟩
  · exact ⟨a2, c2, by simp, h2.kept k⟩

set_option maxRecDepth 100000 in
set_option maxHeartbeats 2000000 in
theorem alive5_any (w : World) : Calls Try.prog 20 #[] w fun e w' => e = .returned (.bool true) ∧ Kept w w' := by
  go_enter Try.func20, Try.ntmps20
  go_wp2_with (first
    | (go_at_call 21; (with_reducible refine (made5_yes 2 1 _ [] _ (sl_none _) field2).mono ?_); rintro e w1 ⟨b1, G1, rfl, g1, t1, p1, m1, o1, k1⟩)
    | (go_at_call 21; (with_reducible refine (made5_yes 5 1 _ [] _ (sl_none _) field5).mono ?_); rintro e w2 ⟨b2, G2, rfl, g2, t2, p2, m2, o2, k2⟩))
  have kA := kept_alloc w2 (.cells #[.int .i64 1, .int .i64 2, .int .i64 0, .int .i64 1] 3)
  have kB := kept_alloc (w2.alloc (.cells #[.int .i64 1, .int .i64 2, .int .i64 0, .int .i64 1] 3)) (.cells #[.int .i64 3, .int .i64 1] 3)
  have sA := (own_four (w := w2) (B := w2.heap.size) (x := 1) (y := 2) (z := 0) (u := 1) (Nat.le_refl _)).sl.kept kB
  have sB := (own_two (w := w2.alloc (.cells #[.int .i64 1, .int .i64 2, .int .i64 0, .int .i64 1] 3)) (B := 0) (x := 3) (y := 1) (Nat.zero_le _)).sl
  rw [World.size_alloc] at sB
  have q5 := (ex5 t2 p2 m2 o2).2
  have hz : t2.po [3, 1] ≠ 0 := fun h => by have := (t2.can_zero (can5 q5).2.2).1 h; cases this
  refine (divmod_any b2 G2 t2 _ _ [1, 2, 0, 1] [3, 1] _ (g2.kept (kA.tr kB)) sA sB (by simp) (by simp) hz).mono ?_
  rintro e w3 ⟨vu, vr, lu, lr, rfl, ou, orr, k3, cu, cr, hd, hdl, nu, nr⟩
  obtain ⟨rfl, rfl⟩ := div5 t2 p2 m2 o2 cu cr hd hdl
  have hk3 : Kept w w3 := ((k1.tr k2).tr (kA.tr kB)).tr k3
  have hg1 := ((g1.kept k2).kept (kA.tr kB)).kept k3
  have su := ou.sl
  have sr := orr.sl
  clear kA kB sA sB hz hd hdl nu nr q5 k3 p2 m2 o2 k2 g1 g2 k1 cu cr ou orr
  go_wp2_with (fail)
  have kA := kept_alloc w3 (.cells #[.int .i64 1, .int .i64 1, .int .i64 1] 3)
  have kB := kept_alloc (w3.alloc (.cells #[.int .i64 1, .int .i64 1, .int .i64 1] 3)) (.cells #[.int .i64 1, .int .i64 1] 3)
  have kC := kept_alloc ((w3.alloc (.cells #[.int .i64 1, .int .i64 1, .int .i64 1] 3)).alloc (.cells #[.int .i64 1, .int .i64 1] 3)) (.cells #[.slice (some ⟨w3.heap.size, 0, none⟩) 3 3, .slice (some ⟨w3.heap.size + 1, 0, none⟩) 2 2] 22)
  have sA := (own_three (w := w3) (B := w3.heap.size) (x := 1) (y := 1) (z := 1) (Nat.le_refl _)).sl.kept kB
  have sB := (own_two (w := w3.alloc (.cells #[.int .i64 1, .int .i64 1, .int .i64 1] 3)) (B := 0) (x := 1) (y := 1) (Nat.zero_le _)).sl
  rw [World.size_alloc] at sB
  have sC := sll_two ((w3.alloc (.cells #[.int .i64 1, .int .i64 1, .int .i64 1] 3)).alloc (.cells #[.int .i64 1, .int .i64 1] 3)) _ _ 3 2 [1, 1, 1] [1, 1] 22 sA sB
  rw [World.size_alloc, World.size_alloc] at sC
  refine (pmul_any b1 G1 t1 _ [[1, 1, 1], [1, 1]] _ (hg1.kept ((kA.tr kB).tr kC)) sC (by simp) (fun i => by
    match i with
    | 0 => simp
    | 1 => simp
    | i + 2 => simp)).mono ?_
  rintro e w4 ⟨v4, l4, rfl, o4, k4, c4, p4, n4⟩
  obtain rfl := mul2 t1 p1 m1 o1 c4 p4
  have kk4 := ((kA.tr kB).tr kC).tr k4
  have hk4 := hk3.tr kk4
  have s4 := o4.sl
  have su4 := su.kept kk4
  have sr4 := sr.kept kk4
  clear kA kB kC sA sB sC k4 kk4 su sr hk3 hg1 t1 t2 p1 m1 o1 c4 p4 n4 o4
  have kD := kept_alloc w4 (.cells #[.int .i64 1, .int .i64 0, .int .i64 0, .int .i64 1] 3)
  have sD := (own_four (w := w4) (B := w4.heap.size) (x := 1) (y := 0) (z := 0) (u := 1) (Nat.le_refl _)).sl
  go_wp2_with (fail)
  refine (sameL_any _ _ [1, 0, 0, 1] [1, 0, 0, 1] _ (s4.kept kD) sD true (by simp)).mono ?_
  rintro e w5 ⟨rfl, m5, rfl⟩
  have kE := kD.drewN m5
  have hk5 := hk4.tr kE
  have su5 := su4.kept kE
  have sr5 := sr4.kept kE
  clear kD sD kE s4 su4 sr4 hk4
  obtain ⟨w5, hw5⟩ : ∃ x, x = (w4.alloc (.cells #[.int .i64 1, .int .i64 0, .int .i64 0, .int .i64 1] 3)).drewN m5 := ⟨_, rfl⟩
  rw [← hw5] at hk5 su5 sr5 ⊢
  clear hw5
  have kF := kept_alloc w5 (.cells #[.int .i64 1, .int .i64 2, .int .i64 1] 3)
  have sF := (own_three (w := w5) (B := w5.heap.size) (x := 1) (y := 2) (z := 1) (Nat.le_refl _)).sl
  go_wp2_with (fail)
  refine (sameL_any _ _ [1, 2, 1] [1, 2, 1] _ (su5.kept kF) sF true (by simp)).mono ?_
  rintro e w6 ⟨rfl, m6, rfl⟩
  have hk6 := (hk5.tr kF).drewN m6
  have sr6 := sr5.kept (kF.drewN m6)
  obtain ⟨w6, hw6⟩ : ∃ x, x = (w5.alloc (.cells #[.int .i64 1, .int .i64 2, .int .i64 1] 3)).drewN m6 := ⟨_, rfl⟩
  rw [← hw6] at hk6 sr6 ⊢
  clear hw6 kF sF hk5 su5 sr5
  have kG := kept_alloc w6 (.cells #[.int .i64 3] 3)
  have sG := (own_one (w := w6) (B := w6.heap.size) (x := 3) (Nat.le_refl _)).sl
  go_wp2_with (fail)
  refine (sameL_any _ _ [3] [3] _ (sr6.kept kG) sG true (by simp)).mono ?_
  rintro e w7 ⟨rfl, m7, rfl⟩
  go_wp2_with (fail)
  go_ret
  exact ⟨rfl, (hk6.tr kG).drewN m7⟩
end Go.Proofs.Ytjoednmoginhpaa
