/- The walk of the laws' alive (chapter 37). No conditions. -/
import Derived.Test.YtmakdclgpeochaaNd
import Derived.Test.YtmakdclgpeochaaHc
namespace Go.Proofs.Ytmakdclgpeochaa
open Go.RowKit Cw

def sig37 : List Int := [1, 0, 0, 1, 0, 1, 1]
theorem tab2 {G : GFd} (t : Tabs G) (h1 : G.P = 2) (h2 : G.M = 1) (h3 : G.mod = []) : G.q = 2 ∧ mulG G 1 1 = 1 ∧ mulG G 1 0 = 0 ∧ mulG G 0 1 = 0 ∧ mulG G 0 0 = 0 ∧ addG G 0 0 = 0 ∧ addG G 1 0 = 1 ∧ addG G 0 1 = 1 ∧ addG G 1 1 = 0 := by
  have hq : G.q = 2 := by rw [t.hq, h1, h2]; decide
  refine ⟨hq, ?_, ?_, ?_, ?_, ?_, ?_, ?_, ?_⟩
  · rw [t.mul_mulS, h1, h2, h3, hq]; decide +kernel
  · rw [t.mul_mulS, h1, h2, h3, hq]; decide +kernel
  · rw [t.mul_mulS, h1, h2, h3, hq]; decide +kernel
  · rw [t.mul_mulS, h1, h2, h3, hq]; decide +kernel
  · unfold addG; rw [h1, h2, hq]; decide +kernel
  · unfold addG; rw [h1, h2, hq]; decide +kernel
  · unfold addG; rw [h1, h2, hq]; decide +kernel
  · unfold addG; rw [h1, h2, hq]; decide +kernel
theorem can37 {G : GFd} (hq : G.q = 2) : Cano G [1, 0, 1, 1] := by
  refine ⟨fun x hx => ?_, fun _ => by simp⟩
  simp at hx; omega
theorem reg37 {G : GFd} (t : Tabs G) (h1 : G.P = 2) (h2 : G.M = 1) (h3 : G.mod = []) : Pl.Reg (t.pl [1, 0, 1, 1]) 3 (t.po sig37) 7 := by
  obtain ⟨hq, m11, m10, m01, m00, a00, a10, a01, a11⟩ := tab2 t h1 h2 h3
  refine ⟨t.e_one, t.pl_ln_le _, fun j j1 j2 => (gap_zero t [1, 0, 1, 1] sig37 j).1 ?_⟩
  have : j = 3 ∨ j = 4 ∨ j = 5 ∨ j = 6 := by omega
  rcases this with rfl | rfl | rfl | rfl <;> simp [gpS, sig37, m11, m10, m01, m00, a00, a10, a01, a11]
theorem cx_mono {α : Type} [Cw.Fd α] (s : PS α) (n : Nat) : Pl.cx s n ≤ Pl.cx s (n + 1) := by
  rcases Pl.cx_step s n with h | ⟨_, h⟩ <;> omega
theorem cx37 {G : GFd} (t : Tabs G) (h1 : G.P = 2) (h2 : G.M = 1) (h3 : G.mod = []) : ∀ i, i ≤ 7 → Pl.cx (t.po sig37) i = if i = 0 then 0 else if i < 4 then 1 else 3 := by
  have s0 : t.po sig37 0 = 1 := t.e_one
  have s1 : t.po sig37 1 = 0 := t.e_zero
  have s2 : t.po sig37 2 = 0 := t.e_zero
  have s3 : t.po sig37 3 = 1 := t.e_one
  have c0 := Pl.cx_zero (t.po sig37)
  have hne : ∀ x : Rs t.fs.mon, x = 1 → x ≠ 0 := fun x h e => Cw.Fd.one_ne (h ▸ e)
  have c1 : Pl.cx (t.po sig37) 1 = 1 := by
    have st : Pl.cx (t.po sig37) 1 = Pl.cx (t.po sig37) 0 ∨ (Pl.cx (t.po sig37) 1 = 1 - Pl.cx (t.po sig37) 0 ∧ Pl.cx (t.po sig37) 0 < Pl.cx (t.po sig37) 1) := Pl.cx_step (t.po sig37) 0
    rcases st with h | ⟨h, _⟩
    · rw [c0] at h
      obtain ⟨⟨c, hr⟩, _⟩ := Pl.cx_is (t.po sig37) 1
      rw [h] at hr
      have := hr.gen 0 (by omega) (by omega)
      rw [PS.mul_at, Rg.sm_succ, Rg.sm_zero, Rg.zero_add, hr.one, s0, Rg.mul_one] at this
      exact absurd this Cw.Fd.one_ne
    · rw [c0] at h; exact h
  have r1 : Pl.Reg (1 : Pl (Rs t.fs.mon)) 1 (t.po sig37) 3 := ⟨by rw [Pl.one_a, PS.one_at, if_pos rfl], by rw [Pl.ln_one]; omega, fun j j1 j2 => by
    rw [Pl.one_a, Rg.one_mul]
    have : j = 1 ∨ j = 2 := by omega
    rcases this with rfl | rfl
    · exact s1
    · exact s2⟩
  have c3 := Pl.cx_le_of r1
  have d1 : Pl.cx (t.po sig37) 1 ≤ Pl.cx (t.po sig37) 2 := cx_mono (t.po sig37) 1
  have d2 : Pl.cx (t.po sig37) 2 ≤ Pl.cx (t.po sig37) 3 := cx_mono (t.po sig37) 2
  have c4 : Pl.cx (t.po sig37) 4 = 3 := by
    have st : Pl.cx (t.po sig37) 4 = Pl.cx (t.po sig37) 3 ∨ (Pl.cx (t.po sig37) 4 = 4 - Pl.cx (t.po sig37) 3 ∧ Pl.cx (t.po sig37) 3 < Pl.cx (t.po sig37) 4) := Pl.cx_step (t.po sig37) 3
    rcases st with h | ⟨h, _⟩
    · obtain ⟨⟨c, hr⟩, _⟩ := Pl.cx_is (t.po sig37) 4
      rw [h, show Pl.cx (t.po sig37) 3 = 1 by omega] at hr
      have e1 := hr.gen 1 (by omega) (by omega)
      rw [PS.mul_at, Rg.sm_succ, Rg.sm_succ, Rg.sm_zero, Rg.zero_add, s1, s0, Rg.mul_zero, Rg.zero_add, Rg.mul_one] at e1
      have e3 := hr.gen 3 (by omega) (by omega)
      have z3 : c.a 3 = 0 := Pl.ln_le.1 hr.len 3 (by omega)
      rw [PS.mul_at, Rg.sm_succ, Rg.sm_succ, Rg.sm_succ, Rg.sm_succ, Rg.sm_zero, Rg.zero_add, s1, s2, s3, s0, hr.one, e1, z3] at e3
      rw [Rg.mul_one, Rg.zero_mul, Rg.mul_zero, Rg.mul_one, Rg.add_zero, Rg.add_zero, Rg.add_zero] at e3
      exact absurd e3 Cw.Fd.one_ne
    · omega
  have c7 := Pl.cx_le_of (reg37 t h1 h2 h3)
  have d4 : Pl.cx (t.po sig37) 4 ≤ Pl.cx (t.po sig37) 5 := cx_mono (t.po sig37) 4
  have d5 : Pl.cx (t.po sig37) 5 ≤ Pl.cx (t.po sig37) 6 := cx_mono (t.po sig37) 5
  have d6 : Pl.cx (t.po sig37) 6 ≤ Pl.cx (t.po sig37) 7 := cx_mono (t.po sig37) 6
  intro i hi
  have : i = 0 ∨ i = 1 ∨ i = 2 ∨ i = 3 ∨ i = 4 ∨ i = 5 ∨ i = 6 ∨ i = 7 := by omega
  rcases this with rfl | rfl | rfl | rfl | rfl | rfl | rfl | rfl <;> simp <;> omega
theorem ex37 {G : GFd} (t : Tabs G) (h1 : G.P = 2) (h2 : G.M = 1) (h3 : G.mod = []) {lc : List Int} {l since : Nat} {old : Pl (Rs t.fs.mon)} {bb : Rs t.fs.mon} (hc : Cano G lc) (h : Pl.BM (t.po sig37) (t.pl lc) old bb l since 7) : l = 3 ∧ lc = [1, 0, 1, 1] := by
  have e := Pl.cx_of h.cx
  rw [cx37 t h1 h2 h3 7 (by omega)] at e
  simp at e
  subst e
  refine ⟨rfl, t.pl_inj hc (can37 (tab2 t h1 h2 h3).1) ?_⟩
  exact Pl.reg_unique h.reg (reg37 t h1 h2 h3) (by omega) h.least
theorem prf37 {G : GFd} (t : Tabs G) (h1 : G.P = 2) (h2 : G.M = 1) (h3 : G.mod = []) {lp : List Int} (h : PrfL t sig37 lp 7) : lp = [0, 1, 1, 1, 3, 3, 3, 3] := by
  have hk := cx37 t h1 h2 h3
  refine List.ext_getElem (by rw [h.1]; rfl) (fun i j1 j2 => ?_)
  have hi : i ≤ 7 := by rw [h.1] at j1; omega
  have e := h.2 i hi
  rw [hk i hi, List.getD_eq_getElem?_getD, List.getElem?_eq_getElem j1, Option.getD_some] at e
  rw [e]
  have : i = 0 ∨ i = 1 ∨ i = 2 ∨ i = 3 ∨ i = 4 ∨ i = 5 ∨ i = 6 ∨ i = 7 := by omega
  rcases this with rfl | rfl | rfl | rfl | rfl | rfl | rfl | rfl <;> simp
set_option maxRecDepth 100000 in
set_option maxHeartbeats 2000000 in
theorem alive5_any (w : World) : Calls Try.prog 13 #[] w fun e w' => e = .returned (.bool true) ∧ Kept w w' := by
  go_enter Try.func13, Try.ntmps13
  go_wp2_with (go_at_call 14; (with_reducible refine (made5_yes 2 1 _ [] _ (sl_none _) field2).mono ?_); rintro e w1 ⟨b1, G, rfl, g1, t, p1, m1, o1, k1⟩)
  have kA := kept_alloc w1 (.cells #[.int .i64 1, .int .i64 0, .int .i64 0, .int .i64 1, .int .i64 0, .int .i64 1, .int .i64 1] 3)
  have sA : Sl (w1.alloc (.cells #[.int .i64 1, .int .i64 0, .int .i64 0, .int .i64 1, .int .i64 0, .int .i64 1, .int .i64 1] 3)) (.slice (some ⟨w1.heap.size, 0, none⟩) 7 7) sig37 := by
    have h0 := World.ownsRow_lit (size := 1) (e := 3) (base := 0) w1 #[.int .i64 1, .int .i64 0, .int .i64 0, .int .i64 1, .int .i64 0, .int .i64 1, .int .i64 1] 7 (Nat.zero_le _) (by unfold maxLen; omega) rfl
    have h1 : Own (w1.alloc (.cells #[.int .i64 1, .int .i64 0, .int .i64 0, .int .i64 1, .int .i64 0, .int .i64 1, .int .i64 1] 3)) 0 (.slice (some ⟨w1.heap.size, 0, none⟩) 7 7) sig37 := by unfold Own sig37; simpa using h0
    exact h1.sl
  have E7 : sig37.length = 7 := rfl
  refine (shortest_any b1 G t _ sig37 _ (g1.kept kA) sA (by rw [E7]; omega)).mono ?_
  rintro e w2 ⟨v2, lc, l, rfl, o2, k2, c2, old, bb, since, hbm⟩
  obtain ⟨rfl, rfl⟩ := ex37 t p1 m1 o1 c2 hbm
  have k12 := kA.tr k2
  have g2 := g1.kept k12
  have sA2 := sA.kept k2
  have s2 := o2.sl
  have hk2 := k1.tr k12
  clear hbm o2 c2 k2 kA k12 g1 sA k1
  go_wp2_with (fail)
  have kD := kept_alloc w2 (.cells #[.int .i64 1, .int .i64 0, .int .i64 1, .int .i64 1] 3)
  have sD := (own_four (w := w2) (B := 0) (x := 1) (y := 0) (z := 1) (u := 1) (Nat.zero_le _)).sl
  refine (sameL_any _ _ [1, 0, 1, 1] [1, 0, 1, 1] _ (s2.kept kD) sD true (by simp)).mono ?_
  rintro e w5 ⟨rfl, m5, rfl⟩
  have kE := kD.drewN m5
  have hk5 := hk2.tr kE
  have sA5 := sA2.kept kE
  have g5 := g2.kept kE
  clear kD sD kE s2 sA2 g2 hk2
  obtain ⟨w5, hw5⟩ : ∃ x, x = (w2.alloc (.cells #[.int .i64 1, .int .i64 0, .int .i64 1, .int .i64 1] 3)).drewN m5 := ⟨_, rfl⟩
  rw [← hw5] at hk5 sA5 g5 ⊢
  clear hw5
  go_wp2_with (fail)
  refine (profile_any b1 G t _ sig37 _ g5 sA5 (by rw [E7]; omega)).mono ?_
  rintro e w6 ⟨v6, lp, rfl, o6, k6, hp⟩
  obtain rfl := prf37 t p1 m1 o1 hp
  have s6 := o6.sl
  have hk6 := hk5.tr k6
  clear hp o6 k6 sA5 g5 hk5 E7
  go_wp2_with (fail)
  have kG := kept_alloc w6 (.cells #[.int .i64 0, .int .i64 1, .int .i64 1, .int .i64 1, .int .i64 3, .int .i64 3, .int .i64 3, .int .i64 3] 3)
  have sG : Sl (w6.alloc (.cells #[.int .i64 0, .int .i64 1, .int .i64 1, .int .i64 1, .int .i64 3, .int .i64 3, .int .i64 3, .int .i64 3] 3)) (.slice (some ⟨w6.heap.size, 0, none⟩) 8 8) [0, 1, 1, 1, 3, 3, 3, 3] := by
    have h0 := World.ownsRow_lit (size := 1) (e := 3) (base := 0) w6 #[.int .i64 0, .int .i64 1, .int .i64 1, .int .i64 1, .int .i64 3, .int .i64 3, .int .i64 3, .int .i64 3] 8 (Nat.zero_le _) (by unfold maxLen; omega) rfl
    have h1 : Own (w6.alloc (.cells #[.int .i64 0, .int .i64 1, .int .i64 1, .int .i64 1, .int .i64 3, .int .i64 3, .int .i64 3, .int .i64 3] 3)) 0 (.slice (some ⟨w6.heap.size, 0, none⟩) 8 8) [0, 1, 1, 1, 3, 3, 3, 3] := by unfold Own; simpa using h0
    exact h1.sl
  refine (sameL_any _ _ [0, 1, 1, 1, 3, 3, 3, 3] [0, 1, 1, 1, 3, 3, 3, 3] _ (s6.kept kG) sG true (by simp)).mono ?_
  rintro e w7 ⟨rfl, m7, rfl⟩
  go_wp2_with (fail)
  go_ret
  exact ⟨rfl, (hk6.tr kG).drewN m7⟩
end Go.Proofs.Ytmakdclgpeochaa
