/- The walk of Field: the description is copied out. Conditions: the field lies in memory with its tables. And that of Check. -/
import Derived.Test.YtmnbcnbhnclkhaaFg
import Derived.Test.YtmnbcnbhnclkhaaSpA
namespace Go.Proofs.Ytmnbcnbhnclkhaa
open Go.RowKit Cw

theorem cell_set3 {w : World} {b c i : Nat} {x y z : Value} (h : b ≠ c) : (((w.setCell ⟨c, 0, none⟩ x).setCell ⟨c, 1, none⟩ y).setCell ⟨c, 2, none⟩ z).cell? ⟨b, i, none⟩ = w.cell? ⟨b, i, none⟩ := by
  have e : ∀ (w : World) (j : Nat) (v : Value), (w.setCell ⟨c, j, none⟩ v).cell? ⟨b, i, none⟩ = w.cell? ⟨b, i, none⟩ := fun w j v => World.cell?_of_block (a := ⟨b, i, none⟩) (Below.heap_setCell _ _ _ _ h)
  rw [e, e, e]

set_option maxHeartbeats 1000000 in
theorem gfField_any (b : Nat) (G : GFd) (w : World) (hg : IsGF w b G) (ht : Tabs G) :
    Calls Try.prog 84 #[.pointer (some ⟨b, 0, none⟩)] w fun e w' => ∃ gm cm, e = .returned (.agg #[.int .i64 G.P, .int .i64 G.M, .slice (some ⟨gm, 0, none⟩) G.mod.length cm]) ∧ Sl w' (.slice (some ⟨gm, 0, none⟩) G.mod.length cm) G.mod ∧ Kept w w' := by
  have hm8 : G.mod.length ≤ 8 := by
    have hs := ht.shape
    obtain ⟨q1, q2, q3, q4, q5, q6, q7⟩ := ht.qb
    by_cases e : G.M = 1
    · have := hs.2.2.1 e
      rw [this]; simp
    · have := (hs.2.2.2 e).1; omega
  obtain ⟨w1, hw1⟩ : ∃ w1, w1 = w.alloc (.cells #[.int .i64 0, .int .i64 0, .slice none 0 0] 24) := ⟨_, rfl⟩
  have hk1 : Kept w w1 := by rw [hw1]; exact kept_alloc _ _
  have hz1 : w1.heap.size = w.heap.size + 1 := by rw [hw1]; simp
  have hg1 := hg.kept hk1
  have hlt : w.heap.size < w1.heap.size := by omega
  have r0 : w1.cell? ⟨w.heap.size, 0, none⟩ = some (.int .i64 0) := by rw [hw1]; simp
  have r1 : w1.cell? ⟨w.heap.size, 1, none⟩ = some (.int .i64 0) := by rw [hw1]; simp
  have r2 : w1.cell? ⟨w.heap.size, 2, none⟩ = some (.slice none 0 0) := by rw [hw1]; simp
  have f0 : w1.frozen? ⟨w.heap.size, 0, none⟩ = false := by rw [hw1]; simp
  have f1 : w1.frozen? ⟨w.heap.size, 1, none⟩ = false := by rw [hw1]; simp
  have f2 : w1.frozen? ⟨w.heap.size, 2, none⟩ = false := by rw [hw1]; simp
  have hne : b ≠ w.heap.size := by have := hg.lt; omega
  obtain ⟨vm, hvm1, hvm2⟩ := hg1.hmod
  obtain ⟨av, cv, rfl, hcv1, hcv2, hcv3⟩ := hvm2
  have hB0 : Below w1.heap.size w1 (w1.alloc (.cells #[] 3)).drew := ((Below.refl _ _).alloc (Nat.le_refl _) _).drew
  have hO0 : Own (w1.alloc (.cells #[] 3)).drew w1.heap.size (.slice (some ⟨w1.heap.size, 0, none⟩) 0 0) [] := (own_empty (Nat.le_refl _)).drew
  have hsrc : ∀ W, Below w1.heap.size w1 W → ∀ ad, av = some ad → ∀ j, j < G.mod.length → W.cell? (ad.add j) = some (.int .i64 (G.mod.getD j 0)) := fun W hW ad had j hj => by
    obtain ⟨b', off', e, hb', hc'⟩ := hcv3 (by intro e; rw [e] at hj; simp at hj)
    rw [had] at e
    cases e
    rw [Addr.add_lit]
    exact (Below.cell hW (p := ⟨b', off' + j, none⟩) hb').trans (hc' j hj)
  have hcvs : G.mod ≠ [] → av ≠ none := fun h => by
    obtain ⟨b', off', e, _⟩ := hcv3 h
    rw [e]; simp
  have Hs := hid hsrc
  have H0 := hid hcv2.2
  have H1 := hid hcvs
  have a0 := hg1.hP
  have a1 := hg1.hM
  have HZ := hid hz1
  have HW := hid hw1
  clear hsrc hcvs hcv3 hz1
  go_enter Try.func84, Try.ntmps84
  go_wp2_with (fail)
  rw [← hw1]
  clear hw1
  go_region_held3 (fun w' => w'.cell? ⟨b, 0, none⟩ = some (.int .i64 G.P) ∧ w'.cell? ⟨b, 1, none⟩ = some (.int .i64 G.M) ∧ w'.cell? ⟨b, 2, none⟩ = some (.slice av G.mod.length cv)) (first | (go_keep; done) | (simp [*]; done) | (refine ⟨?_, ?_, ?_⟩ <;> (rw [cell_set3 hne]; assumption)))
    (first
      | (refine step_copy_ints rfl (.tmp 13) (.tmp 18) rfl w1.heap.size _ rfl hO0 av G.mod.length cv G.mod rfl rfl H0.out H1.out (Hs.out _ hB0) (by omega) ?_; intro gm cm w4 hg4 gm1 gm2 ho4; have hb4 := below_grown hB0 hg4 hB0.size hO0.lt.1; have hgf4 := hg1.kept hb4; have e0 := hgf4.hP; have e1 := hgf4.hM; have e2 := (Kept.cell' hb4 hg1.lt).trans hvm1; have q0 := (Kept.cell' hb4 hlt).trans r0; have q1 := (Kept.cell' hb4 hlt).trans r1; have q2 := (Kept.cell' hb4 hlt).trans r2; have p0 := (Kept.frozen' hb4 hlt).trans f0; have p1 := (Kept.frozen' hb4 hlt).trans f1; have p2 := (Kept.frozen' hb4 hlt).trans f2; clear gm1))
  go_wp2_with (fail)
  have hgm : gm ≠ w.heap.size := by omega
  have hso : ∀ (W : World) (i : Nat) (u : Value), Own W w1.heap.size (.slice (some ⟨gm, 0, none⟩) G.mod.length cm) G.mod → Own (W.setCell ⟨w.heap.size, i, none⟩ u) w1.heap.size (.slice (some ⟨gm, 0, none⟩) G.mod.length cm) G.mod := fun W i u h => h.setOther ⟨w.heap.size, i, none⟩ u (fun g n c e => by cases e; exact hgm)
  have hkw : Kept w w4 := hk1.tr hb4
  have hks : ∀ (W : World) (i : Nat) (u : Value), Kept w W → Kept w (W.setCell ⟨w.heap.size, i, none⟩ u) := fun W i u h => Below.setCell h (p := ⟨w.heap.size, i, none⟩) (Nat.le_refl _) u
  have hfin := hso _ 2 (.slice (some ⟨gm, 0, none⟩) G.mod.length cm) (hso _ 1 (.int .i64 G.M) (hso _ 0 (.int .i64 G.P) ho4))
  have hkf := hks _ 2 (.slice (some ⟨gm, 0, none⟩) G.mod.length cm) (hks _ 1 (.int .i64 G.M) (hks _ 0 (.int .i64 G.P) hkw))
  have hsl := hfin.sl
  clear hfin hso hks
  refine bodyPost_ret (v := .agg #[.int .i64 G.P, .int .i64 G.M, .slice (some ⟨gm, 0, none⟩) G.mod.length cm]) ?_ rfl ⟨gm, cm, rfl, hsl, hkf⟩
  simp [results, Try.results84, go_sem, q0, q1, q2]
end Go.Proofs.Ytmnbcnbhnclkhaa
