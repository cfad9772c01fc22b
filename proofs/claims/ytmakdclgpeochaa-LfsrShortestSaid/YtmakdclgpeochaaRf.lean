/- The walks of the reference's sum and negative. Conditions: a description of the right shape. -/
import Derived.Test.YtmakdclgpeochaaRd
import Derived.Test.YtmakdclgpeochaaMiA
namespace Go.Proofs.Ytmakdclgpeochaa
open Go.RowKit Cw

theorem grownBy_drew_setCell (w : World) (g i : Nat) (u : Value) : w.grownBy (w.setCell ⟨g, i, none⟩ u).drew (some g) := by
  have h := grownBy_setCell w g i u
  exact ⟨h.os, h.tape, h.output, h.size, h.block⟩

set_option maxHeartbeats 1000000 in
theorem rAdd_any (P : Int) (m : Nat) (vm : Value) (x y : Int) (w : World) (hp : 2 ≤ P) (hp2 : P ≤ 256) (hm1 : 1 ≤ m) (hm : m ≤ 8) (hq0 : 0 < ordS P m) (hq : ordS P m ≤ 256) (hqm : P ^ m ≤ 256) :
    Calls Try.prog 23 #[.agg #[.int .i64 P, .int .i64 m, vm], .int .i64 x, .int .i64 y] w fun e w' => e = .returned (.int .i64 (addD P m (inn (ordS P m) x) (inn (ordS P m) y))) ∧ Kept w w' := by
  have hk0 := kept_alloc w (.cells #[.int .i64 P, .int .i64 m, vm] 24)
  have hbx := boxF_new w P m vm 24
  have HQ0 := hid hq0
  have HQ := hid hq
  have HQM := hid hqm
  clear hq0 hq hqm
  go_enter Try.func23, Try.ntmps23
  go_wp2_with (first
    | (go_at_call 39; (with_reducible refine (rDigits_any P m vm x _ hp hp2 hm HQ0.out HQ.out).mono ?_); rintro e w1 ⟨g1, rfl, ho1, hk1⟩; have bx1 := hbx.kept hk1; have a0 := bx1.h0; have a1 := bx1.h1; have a2 := bx1.h2)
    | (go_at_call 39; (with_reducible refine (rDigits_any P m vm y _ hp hp2 hm HQ0.out HQ.out).mono ?_); rintro e w2 ⟨g2, rfl, ho2, hk2⟩; have bx2 := bx1.kept hk2))
  clear a0 a1 a2
  obtain ⟨xa, hxa⟩ : ∃ xa, xa = digL P (inn (ordS P m) x) m := ⟨_, rfl⟩
  obtain ⟨xb, hxb⟩ : ∃ xb, xb = digL P (inn (ordS P m) y) m := ⟨_, rfl⟩
  have lA : Hid (xa.length = m) := hid (by rw [hxa, length_digL])
  have lB : Hid (xb.length = m) := hid (by rw [hxb, length_digL])
  have dA : Digs P xa := by rw [hxa]; exact digs_digL (by omega) m
  have dB : Digs P xb := by rw [hxb]; exact digs_digL (by omega) m
  have HF : Hid (valL P (adL P xa xb m) = addD P m (inn (ordS P m) x) (inn (ordS P m) y)) := hid (by rw [hxa, hxb]; exact valL_adL (by omega) m _ _)
  rw [← hxa] at ho1
  rw [← hxb] at ho2
  clear hxa hxb
  obtain ⟨B1, hB1⟩ : ∃ B, B = (w.alloc (.cells #[.int .i64 P, .int .i64 m, vm] 24)).heap.size := ⟨_, rfl⟩
  rw [← hB1] at ho1
  have hbB : w.heap.size < B1 := by rw [hB1]; simp
  have hg1 := ho1.lt
  have ho1' := ho1.kept hk2
  have hg2 := ho2.lt
  have hk02 : Kept w w2 := (hk0.tr hk1).tr hk2
  have hbel0 : Below B1 w2 w2 := Below.refl _ _
  have hgg : g2 ≠ g1 := by omega
  have hg1w : g1 < w2.heap.size := by have := hk2.size; omega
  clear hB1 ho1
  obtain ⟨v2, hv2⟩ : ∃ v, v = w2 := ⟨_, rfl⟩
  go_loopw [9] (fun vi wr => ∃ i : Nat, i ≤ m ∧ vi = .int .i64 i ∧ Own wr B1 (.slice (some ⟨g1, 0, none⟩) m m) (adL P xa xb i) ∧ w2.grownBy wr (some g1)) (fun vi _ => m - (intOf vi).toNat)
  case atStart => exact ⟨0, by omega, rfl, ho1', World.grownBy.refl _ _⟩
  case round =>
    obtain ⟨i, hi, rfl, hown, hgr⟩ := hrel
    clear ho1'
    obtain ⟨us, hus⟩ : ∃ us, us = adL P xa xb i := ⟨_, rfl⟩
    rw [← hus] at hown
    have lU : Hid (us.length = m) := hid (by rw [hus, length_adL, lA.out])
    have dU : Digs P us := by rw [hus]; exact digs_adL (by omega) _ dA _
    have HU := hid hus
    clear hus
    have hbw : Below B1 w2 wr := below_grown hbel0 hgr (by omega) hg1.1
    have bx := bx2.below hbw hbB
    have f0 := bx.h0
    have f1 := bx.h1
    have f2 := bx.h2
    by_cases hlt : i < m
    · have cB : wr.cell? ⟨g2, i, none⟩ = some (.int .i64 (xb.getD i 0)) := (World.cell?_of_block (a := ⟨g2, i, none⟩) (hgr.block g2 hg2.2 (fun e => hgg (by cases e; rfl)))).trans (ho2.cell (by rw [lB.out]; exact hlt))
      have cU := hown.cell (i := i) (by rw [lU.out]; exact hlt)
      have fU := hown.frozen i
      obtain ⟨bv, hbv⟩ : ∃ b, b = xb.getD i 0 := ⟨_, rfl⟩
      obtain ⟨uv, huv⟩ : ∃ b, b = us.getD i 0 := ⟨_, rfl⟩
      rw [← hbv] at cB
      rw [← huv] at cU
      have dBv : 0 ≤ bv ∧ bv < P := by rw [hbv]; exact digs_at (by omega) dB _
      have dUv : 0 ≤ uv ∧ uv < P := by rw [huv]; exact digs_at (by omega) dU _
      have HT : Hid (adL P xa xb (i + 1) = us.set i ((uv + bv) % P)) := hid (by rw [adL, ← HU.out, hbv, huv])
      have j3 : (i : Int) < (m : Int) := by omega
      obtain ⟨b1, b2⟩ := dBv
      obtain ⟨u1, u2⟩ := dUv
      clear hbv huv
      have hset := (hown.set i ((uv + bv) % P)).drew
      have hgr2 := grownBy_trans hgr (grownBy_drew_setCell wr g1 i (.int .i64 ((uv + bv) % P)))
      clear hbw bx
      go_wp2_with (fail)
      have w3' : IntKind.i64.wrap (uv + bv) = uv + bv := IntWalk.i64_in _ (by omega)
      go_region
      clear w3'
      clear hown hgr
      go_wp2_with (fail)
      go_roundw
      case rel => exact ⟨i + 1, by omega, by go_num, by rw [HT.out]; exact hset, hgr2⟩
      case measure => simp [intOf]; omega
    · have ei : i = m := by omega
      have HFF : Hid (valL P us = addD P m (inn (ordS P m) x) (inn (ordS P m) y)) := hid (by rw [HU.out, ei, HF.out])
      have hkw : Kept w wr := hk02.trans (hbw.mono (by omega))
      clear ei
      go_wp2_with (go_at_call 40; (with_reducible refine (rValue_any P m vm _ us _ hown.sl (by omega) hp2 dU (by rw [lU.out]; exact HQM.out) (by rw [lU.out]; exact hm)).mono ?_); rintro e w3 ⟨rfl, hk3⟩)
      go_ret
      exact ⟨ret_int HFF.out, hkw.tr hk3⟩

set_option maxHeartbeats 1000000 in
theorem rNeg_any (P : Int) (m : Nat) (vm : Value) (x : Int) (w : World) (hp : 2 ≤ P) (hp2 : P ≤ 256) (hm1 : 1 ≤ m) (hm : m ≤ 8) (hq0 : 0 < ordS P m) (hq : ordS P m ≤ 256) (hqm : P ^ m ≤ 256) :
    Calls Try.prog 64 #[.agg #[.int .i64 P, .int .i64 m, vm], .int .i64 x] w fun e w' => e = .returned (.int .i64 (negD P m (inn (ordS P m) x))) ∧ Kept w w' := by
  have hk0 := kept_alloc w (.cells #[.int .i64 P, .int .i64 m, vm] 24)
  have hbx := boxF_new w P m vm 24
  have HQ0 := hid hq0
  have HQ := hid hq
  have HQM := hid hqm
  clear hq0 hq hqm
  go_enter Try.func64, Try.ntmps64
  go_wp2_with (go_at_call 39; (with_reducible refine (rDigits_any P m vm x _ hp hp2 hm HQ0.out HQ.out).mono ?_); rintro e w2 ⟨g1, rfl, ho1, hk1⟩; have bx2 := hbx.kept hk1)
  obtain ⟨xa, hxa⟩ : ∃ xa, xa = digL P (inn (ordS P m) x) m := ⟨_, rfl⟩
  have lA : Hid (xa.length = m) := hid (by rw [hxa, length_digL])
  have dA : Digs P xa := by rw [hxa]; exact digs_digL (by omega) m
  have HF : Hid (valL P (ngL P xa m) = negD P m (inn (ordS P m) x)) := hid (by rw [hxa]; exact valL_ngL (by omega) m _)
  rw [← hxa] at ho1
  clear hxa
  obtain ⟨B1, hB1⟩ : ∃ B, B = (w.alloc (.cells #[.int .i64 P, .int .i64 m, vm] 24)).heap.size := ⟨_, rfl⟩
  rw [← hB1] at ho1
  have hbB : w.heap.size < B1 := by rw [hB1]; simp
  have hg1 := ho1.lt
  have hk02 : Kept w w2 := hk0.tr hk1
  have hbel0 : Below B1 w2 w2 := Below.refl _ _
  clear hB1
  go_loopw [6] (fun vi wr => ∃ i : Nat, i ≤ m ∧ vi = .int .i64 i ∧ Own wr B1 (.slice (some ⟨g1, 0, none⟩) m m) (ngL P xa i) ∧ w2.grownBy wr (some g1)) (fun vi _ => m - (intOf vi).toNat)
  case atStart => exact ⟨0, by omega, rfl, ho1, World.grownBy.refl _ _⟩
  case round =>
    obtain ⟨i, hi, rfl, hown, hgr⟩ := hrel
    clear ho1
    obtain ⟨us, hus⟩ : ∃ us, us = ngL P xa i := ⟨_, rfl⟩
    rw [← hus] at hown
    have lU : Hid (us.length = m) := hid (by rw [hus, length_ngL, lA.out])
    have dU : Digs P us := by rw [hus]; exact digs_ngL (by omega) dA _
    have HU := hid hus
    clear hus
    have hbw : Below B1 w2 wr := below_grown hbel0 hgr (by omega) hg1.1
    have bx := bx2.below hbw hbB
    have f0 := bx.h0
    have f1 := bx.h1
    have f2 := bx.h2
    by_cases hlt : i < m
    · have cU := hown.cell (i := i) (by rw [lU.out]; exact hlt)
      have fU := hown.frozen i
      obtain ⟨uv, huv⟩ : ∃ b, b = us.getD i 0 := ⟨_, rfl⟩
      rw [← huv] at cU
      have dUv : 0 ≤ uv ∧ uv < P := by rw [huv]; exact digs_at (by omega) dU _
      have HT : Hid (ngL P xa (i + 1) = us.set i (-uv % P)) := hid (by rw [ngL, ← HU.out, huv, show P - us.getD i 0 = -us.getD i 0 + P * 1 by omega, Int.add_mul_emod_self_left])
      have j3 : (i : Int) < (m : Int) := by omega
      obtain ⟨u1, u2⟩ := dUv
      clear huv
      have hset := (hown.set i (-uv % P)).drew
      have hgr2 := grownBy_trans hgr (grownBy_drew_setCell wr g1 i (.int .i64 (-uv % P)))
      clear hbw bx
      go_wp2_with (fail)
      have w3' : IntKind.i64.wrap (P - uv) = P - uv := IntWalk.i64_in _ (by omega)
      go_region
      clear w3'
      clear hown hgr
      go_wp2_with (fail)
      go_roundw
      case rel => exact ⟨i + 1, by omega, by go_num, by rw [HT.out]; exact hset, hgr2⟩
      case measure => simp [intOf]; omega
    · have ei : i = m := by omega
      have HFF : Hid (valL P us = negD P m (inn (ordS P m) x)) := hid (by rw [HU.out, ei, HF.out])
      have hkw : Kept w wr := hk02.trans (hbw.mono (by omega))
      clear ei
      go_wp2_with (go_at_call 40; (with_reducible refine (rValue_any P m vm _ us _ hown.sl (by omega) hp2 dU (by rw [lU.out]; exact HQM.out) (by rw [lU.out]; exact hm)).mono ?_); rintro e w3 ⟨rfl, hk3⟩)
      go_ret
      exact ⟨ret_int HFF.out, hkw.tr hk3⟩

end Go.Proofs.Ytmakdclgpeochaa
