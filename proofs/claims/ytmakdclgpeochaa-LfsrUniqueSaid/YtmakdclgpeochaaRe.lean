/- The walk of the reference's product. Conditions: a description of the right shape. -/
import Derived.Test.YtmakdclgpeochaaRd
import Derived.Test.YtmakdclgpeochaaSpA
namespace Go.Proofs.Ytmakdclgpeochaa
open Go.RowKit Cw

theorem Own.sl_take {w : World} {B g n cap : Nat} {xs : List Int} (h : Own w B (.slice (some ⟨g, 0, none⟩) n cap) xs) {k : Nat} (hk : k ≤ xs.length) : Sl w (.slice (some ⟨g, 0, none⟩) k cap) (xs.take k) := by
  rcases h.form with ⟨e, _⟩ | ⟨g', cap', e, _, hg, h2, h3⟩
  · cases e
  · cases e
    have hl : (xs.take k).length = k := by simp; omega
    refine ⟨_, cap, by rw [hl], by omega, ⟨h3, fun e => by cases e⟩, fun _ => ⟨g, 0, rfl, hg, fun i hi => ?_⟩⟩
    rw [hl] at hi
    rw [Nat.zero_add, h.cell (i := i) (by omega)]
    simp [List.getD, hi]

set_option maxRecDepth 100000 in
set_option maxHeartbeats 2000000 in
theorem rMul_any (P : Int) (m : Nat) (vm : Value) (mod : List Int) (x y : Int) (w : World) (hvm : Sl w vm mod) (hp : 2 ≤ P) (hp2 : P ≤ 256) (hm1 : 1 ≤ m) (hm : m ≤ 8) (hq0 : 0 < ordS P m) (hq : ordS P m ≤ 256) (hqm : P ^ m ≤ 256)
    (hml : 1 < m → mod.length = m) (hmd : Digs P mod) :
    Calls Try.prog 24 #[.agg #[.int .i64 P, .int .i64 m, vm], .int .i64 x, .int .i64 y] w fun e w' => e = .returned (.int .i64 (valL P (rMulL P m mod (digL P (inn (ordS P m) x) m) (digL P (inn (ordS P m) y) m)))) ∧ Kept w w' := by
  have hk0 := kept_alloc w (.cells #[.int .i64 P, .int .i64 m, vm] 24)
  have hbx := boxF_new w P m vm 24
  obtain ⟨N, hN⟩ : ∃ N, N = 2 * m - 1 := ⟨_, rfl⟩
  have hN2 : N ≤ 15 := by omega
  have HN := hid hN
  have HQ0 := hid hq0
  have HQ := hid hq
  have HQM := hid hqm
  have hNi : 2 * (m : Int) - 1 = (N : Int) := by omega
  have HNI := hid hNi
  clear hN hq0 hq hNi hqm
  go_enter Try.func24, Try.ntmps24
  go_wp2_with (first
    | (go_at_call 39; (with_reducible refine (rDigits_any P m vm x _ hp hp2 hm HQ0.out HQ.out).mono ?_); rintro e w1 ⟨g1, rfl, ho1, hk1⟩; have bx1 := hbx.kept hk1; have a0 := bx1.h0; have a1 := bx1.h1; have a2 := bx1.h2)
    | (go_at_call 39; (with_reducible refine (rDigits_any P m vm y _ hp hp2 hm HQ0.out HQ.out).mono ?_); rintro e w2 ⟨g2, rfl, ho2, hk2⟩; have bx2 := bx1.kept hk2; have b0 := bx2.h0; have b1 := bx2.h1; have b2 := bx2.h2)
    | (at_make; refine wpList_make_ints rfl _ _ rfl N _ _ rfl rfl HNI.out HNI.out (by omega) ?_; intro w3 ho3 hk3))
  clear a0 a1 a2 b0 b1 b2
  have ho1' := ho1.kept hk2
  have hk02 := (hk0.tr hk1).tr hk2
  have hvm2 := hvm.kept hk02
  have z1 : g1 < w2.heap.size := ho1'.lt.2
  have z2 : g2 < w2.heap.size := ho2.lt.2
  obtain ⟨am, cm, rfl, hcm, hcm2, hmc⟩ := hvm2
  obtain ⟨xa, hxa⟩ : ∃ xa, xa = digL P (inn (ordS P m) x) m := ⟨_, rfl⟩
  obtain ⟨xb, hxb⟩ : ∃ xb, xb = digL P (inn (ordS P m) y) m := ⟨_, rfl⟩
  have lA : Hid (xa.length = m) := hid (by rw [hxa, length_digL])
  have lB : Hid (xb.length = m) := hid (by rw [hxb, length_digL])
  have dA : Digs P xa := by rw [hxa]; exact digs_digL (by omega) m
  have dB : Digs P xb := by rw [hxb]; exact digs_digL (by omega) m
  rw [← hxa] at ho1'
  rw [← hxb] at ho2
  have HXA := hid hxa
  have HXB := hid hxb
  clear hxa hxb ho1 hvm
  have hcA : ∀ i, i < m → w2.cell? ⟨g1, i, none⟩ = some (.int .i64 (xa.getD i 0)) := fun i hi => ho1'.cell (by rw [lA.out]; exact hi)
  have hcB : ∀ i, i < m → w2.cell? ⟨g2, i, none⟩ = some (.int .i64 (xb.getD i 0)) := fun i hi => ho2.cell (by rw [lB.out]; exact hi)
  have HCA := hid hcA
  have HCB := hid hcB
  clear hcA hcB ho1' ho2
  obtain ⟨z0, hz0⟩ : ∃ z, z = List.replicate N (0 : Int) := ⟨_, rfl⟩
  rw [← hz0] at ho3
  have lZ : Hid (z0.length = N) := hid (by rw [hz0]; simp)
  have dZ : Digs P z0 := by rw [hz0]; exact digs_zeros (by omega) _
  have HZ := hid hz0
  clear hz0
  go_loopw [10] (fun vi wr => ∃ i : Nat, i ≤ m ∧ vi = .int .i64 i ∧ Own wr w2.heap.size (.slice (some ⟨w2.heap.size, 0, none⟩) N N) (cvAll P m xa xb z0 i) ∧ Below w2.heap.size w2 wr) (fun vi _ => m - (intOf vi).toNat)
  case atStart => exact ⟨0, by omega, rfl, ho3, hk3⟩
  case round =>
    obtain ⟨i, hi, rfl, hown, hbel⟩ := hrel
    clear ho3 hk3
    obtain ⟨ys, hys⟩ : ∃ ys, ys = cvAll P m xa xb z0 i := ⟨_, rfl⟩
    rw [← hys] at hown
    have lY : Hid (ys.length = N) := hid (by rw [hys, length_cvAll, lZ.out])
    have dY : Digs P ys := by rw [hys]; exact digs_cvAll (by omega) _ _ _ dZ _
    have HY := hid hys
    clear hys
    have f0 := (bx2.below hbel bx2.lt).h0
    have f1 := (bx2.below hbel bx2.lt).h1
    have f2 := (bx2.below hbel bx2.lt).h2
    by_cases hlt : i < m
    · have HS : Hid (cvAll P m xa xb z0 (i + 1) = cvRow P xa xb i ys m) := hid (by rw [cvAll, ← HY.out])
      clear hi
      go_wp2_with (fail)
      clear f0 f1 f2
      go_loopw [11] (fun vj wr => ∃ j : Nat, j ≤ m ∧ vj = .int .i64 j ∧ Own wr w2.heap.size (.slice (some ⟨w2.heap.size, 0, none⟩) N N) (cvRow P xa xb i ys j) ∧ Below w2.heap.size w2 wr) (fun vj _ => m - (intOf vj).toNat)
      case atStart => exact ⟨0, by omega, rfl, hown, hbel⟩
      case round =>
        obtain ⟨j, hj, rfl, hown, hbel⟩ := hrel
        obtain ⟨us, hus⟩ : ∃ us, us = cvRow P xa xb i ys j := ⟨_, rfl⟩
        rw [← hus] at hown
        have lU : Hid (us.length = N) := hid (by rw [hus, length_cvRow, lY.out])
        have dU : Digs P us := by rw [hus]; exact digs_cvRow (by omega) _ _ _ dY _
        have HU := hid hus
        clear hus
        have f0 := (bx2.below hbel bx2.lt).h0
        have f1 := (bx2.below hbel bx2.lt).h1
        have f2 := (bx2.below hbel bx2.lt).h2
        by_cases hjm : j < m
        · have hnn := HN.out
          have cA := (Below.cell hbel (p := ⟨g1, i, none⟩) z1).trans (HCA.out i hlt)
          have cB := (Below.cell hbel (p := ⟨g2, j, none⟩) z2).trans (HCB.out j hjm)
          have cU := hown.cell (i := i + j) (by rw [lU.out]; omega)
          have fU := hown.frozen (i + j)
          obtain ⟨av, hav⟩ : ∃ b, b = xa.getD i 0 := ⟨_, rfl⟩
          obtain ⟨bv, hbv⟩ : ∃ b, b = xb.getD j 0 := ⟨_, rfl⟩
          obtain ⟨uv, huv⟩ : ∃ b, b = us.getD (i + j) 0 := ⟨_, rfl⟩
          rw [← hav] at cA
          rw [← hbv] at cB
          rw [← huv] at cU
          have dAv : 0 ≤ av ∧ av < P := by rw [hav]; exact digs_at (by omega) dA _
          have dBv : 0 ≤ bv ∧ bv < P := by rw [hbv]; exact digs_at (by omega) dB _
          have dUv : 0 ≤ uv ∧ uv < P := by rw [huv]; exact digs_at (by omega) dU _
          obtain ⟨s1, s2, s3⟩ := cv_bd hp2 dAv dBv dUv
          have HT : Hid (cvRow P xa xb i ys (j + 1) = us.set (i + j) ((uv + av * bv) % P)) := hid (by rw [cvRow, ← HU.out, cvStep, hav, hbv, huv])
          have j0 : (0 : Int) ≤ (i : Int) + (j : Int) := by omega
          have j1 : (i : Int) + (j : Int) < (N : Int) := by omega
          have j2 : ((i : Int) + (j : Int)).toNat = i + j := by omega
          have j3 : (i : Int) < (m : Int) := by omega
          have j4 : (j : Int) < (m : Int) := by omega
          obtain ⟨u1, u2⟩ := dUv
          clear hav hbv huv hnn
          have hset := (hown.set (i + j) ((uv + av * bv) % P)).drew
          have hbs := (Below.setCell hbel (p := ⟨w2.heap.size, i + j, none⟩) (Nat.le_refl _) (.int .i64 ((uv + av * bv) % P))).drew
          go_wp2_with (fail)
          have w1' : IntKind.i64.wrap ((i : Int) + (j : Int)) = (i : Int) + (j : Int) := IntWalk.i64_in _ (by omega)
          have w2' : IntKind.i64.wrap (av * bv) = av * bv := IntWalk.i64_in _ (by clear w1'; omega)
          have w3' : IntKind.i64.wrap (uv + av * bv) = uv + av * bv := IntWalk.i64_in _ (by clear w1' w2'; omega)
          have pz : ¬ P = 0 := by omega
          have tm : (uv + av * bv).tmod P = (uv + av * bv) % P := Int.tmod_eq_emod_of_nonneg s3
          go_still_tail 24, (by kernel_rfl)
          clear w1' w2' w3' pz tm
          change wpList _ _ _ _ _ wr.drew
          clear hown hbel
          go_wp2_with (fail)
          go_roundw
          case rel => exact ⟨j + 1, by omega, by go_num, by rw [HT.out]; exact hset, hbs⟩
          case measure => simp [intOf]; omega
        · have ej : j = m := by omega
          have HE : Hid (us = cvAll P m xa xb z0 (i + 1)) := hid (by rw [HS.out, HU.out, ej])
          rw [HE.out] at hown
          clear ej
          go_wp2_with (fail)
          go_roundw
          case rel => exact ⟨i + 1, by omega, by go_num, hown, hbel⟩
          case measure => simp [intOf]; omega
    · have ei : i = m := by omega
      obtain ⟨cs, hcs⟩ : ∃ cs, cs = cvAll P m xa xb z0 m := ⟨_, rfl⟩
      have HE : Hid (ys = cs) := hid (by rw [HY.out, hcs, ei])
      rw [HE.out] at hown lY dY
      have HR : Hid (rMulL P m mod xa xb = (rdAll P m mod cs (m - 1)).take m) := hid (by rw [rMulL, ← HN.out, ← HZ.out, hcs])
      clear hcs ei HY HE
      go_wp2_with (fail)
      clear f0 f1 f2
      go_loopw [12] (fun vi wr => ∃ n : Nat, n ≤ m - 1 ∧ vi = .int .i64 (2 * (m : Int) - 2 - n) ∧ Own wr w2.heap.size (.slice (some ⟨w2.heap.size, 0, none⟩) N N) (rdAll P m mod cs n) ∧ Below w2.heap.size w2 wr) (fun vi _ => (intOf vi + 1 - m).toNat)
      case atStart => exact ⟨0, by omega, by simp, hown, hbel⟩
      case round =>
        obtain ⟨n, hn, rfl, hown, hbel⟩ := hrel
        obtain ⟨ts, hts⟩ : ∃ ts, ts = rdAll P m mod cs n := ⟨_, rfl⟩
        rw [← hts] at hown
        have lT : Hid (ts.length = N) := hid (by rw [hts, length_rdAll, lY.out])
        have dT : Digs P ts := by rw [hts]; exact digs_rdAll (by omega) _ _ dY _
        have HT := hid hts
        clear hts
        have f0 := (bx2.below hbel bx2.lt).h0
        have f1 := (bx2.below hbel bx2.lt).h1
        have f2 := (bx2.below hbel bx2.lt).h2
        by_cases hlt : n < m - 1
        · obtain ⟨i, hi⟩ : ∃ i, 2 * m - 2 = n + i := ⟨2 * m - 2 - n, by omega⟩
          obtain ⟨s, hs⟩ : ∃ s, i = m + s := ⟨i - m, by omega⟩
          have ei : 2 * (m : Int) - 2 - (n : Int) = (i : Int) := by omega
          rw [ei]
          have i0 : (0 : Int) ≤ (i : Int) := by omega
          have i1 : (m : Int) ≤ (i : Int) := by omega
          have i2 : (i : Int) < (N : Int) := by have := HN.out; omega
          have hmm := hml (by omega)
          obtain ⟨bm, om, rfl, hbm, hmcell⟩ := hmc (by intro e; rw [e] at hmm; simp at hmm; omega)
          have HMM := hid hmm
          have HS : Hid (rdAll P m mod cs (n + 1) = rdRow P m mod i ts m) := hid (by rw [rdAll, ← HT.out, show 2 * m - 2 - n = i by omega])
          have Hi := hid hi
          have Hs := hid hs
          clear hi hs ei hmm hn
          go_wp2_with (fail)
          clear f0 f1 f2
          go_loopw [13] (fun vj wr => ∃ j : Nat, j ≤ m ∧ vj = .int .i64 j ∧ Own wr w2.heap.size (.slice (some ⟨w2.heap.size, 0, none⟩) N N) (rdRow P m mod i ts j) ∧ Below w2.heap.size w2 wr) (fun vj _ => m - (intOf vj).toNat)
          case atStart => exact ⟨0, by omega, rfl, hown, hbel⟩
          case round =>
            obtain ⟨j, hj, rfl, hown, hbel⟩ := hrel
            obtain ⟨us, hus⟩ : ∃ us, us = rdRow P m mod i ts j := ⟨_, rfl⟩
            rw [← hus] at hown
            have lU : Hid (us.length = N) := hid (by rw [hus, length_rdRow, lT.out])
            have dU : Digs P us := by rw [hus]; exact digs_rdRow (by omega) _ _ _ dT _
            have HU := hid hus
            clear hus
            have f0 := (bx2.below hbel bx2.lt).h0
            have f1 := (bx2.below hbel bx2.lt).h1
            have f2 := (bx2.below hbel bx2.lt).h2
            by_cases hjm : j < m
            · have hs' := Hs.out
              have hmm := HMM.out
              have cM := (Below.cell hbel (p := ⟨bm, om + j, none⟩) hbm).trans (hmcell j (by omega))
              have cU := hown.cell (i := s + j) (by rw [lU.out]; omega)
              have cI := hown.cell (i := i) (by rw [lU.out]; omega)
              have fU := hown.frozen (s + j)
              obtain ⟨mv, hmv⟩ : ∃ b, b = mod.getD j 0 := ⟨_, rfl⟩
              obtain ⟨iv, hiv⟩ : ∃ b, b = us.getD i 0 := ⟨_, rfl⟩
              obtain ⟨uv, huv⟩ : ∃ b, b = us.getD (s + j) 0 := ⟨_, rfl⟩
              rw [← hmv] at cM
              rw [← hiv] at cI
              rw [← huv] at cU
              have dMv : 0 ≤ mv ∧ mv < P := by rw [hmv]; exact digs_at (by omega) hmd _
              have dIv : 0 ≤ iv ∧ iv < P := by rw [hiv]; exact digs_at (by omega) dU _
              have dUv : 0 ≤ uv ∧ uv < P := by rw [huv]; exact digs_at (by omega) dU _
              obtain ⟨s1, s2, s3⟩ := div_bd hp hp2 dIv dMv dUv
              have HX : Hid (rdRow P m mod i ts (j + 1) = us.set (s + j) ((uv + (P - iv) * mv) % P)) := hid (by rw [rdRow, ← HU.out, rdStep, show i - m + j = s + j by omega, hmv, hiv, huv])
              have j0 : (0 : Int) ≤ (s : Int) + (j : Int) := by omega
              have j1 : (s : Int) + (j : Int) < (N : Int) := by omega
              have j2 : ((s : Int) + (j : Int)).toNat = s + j := by omega
              have j4 : (j : Int) < (m : Int) := by omega
              have j5 : (j : Int) < (mod.length : Int) := by omega
              have e1 : Hid ((i : Int) - (m : Int) = (s : Int)) := hid (by omega)
              obtain ⟨t1, t2⟩ := dIv
              obtain ⟨u1, u2⟩ := dUv
              clear hmv hiv huv hs' hmm dMv
              have hset := (hown.set (s + j) ((uv + (P - iv) * mv) % P)).drew
              have hbs := (Below.setCell hbel (p := ⟨w2.heap.size, s + j, none⟩) (Nat.le_refl _) (.int .i64 ((uv + (P - iv) * mv) % P))).drew
              go_wp2_with (fail)
              have x1 : IntKind.i64.wrap ((i : Int) - (m : Int)) = (s : Int) := by rw [e1.out]; exact IntWalk.i64_in _ (by omega)
              have x2 : IntKind.i64.wrap ((s : Int) + (j : Int)) = (s : Int) + (j : Int) := IntWalk.i64_in _ (by clear x1; omega)
              have x3 : IntKind.i64.wrap (P - iv) = P - iv := IntWalk.i64_in _ (by clear x1 x2; omega)
              have x4 : IntKind.i64.wrap ((P - iv) * mv) = (P - iv) * mv := IntWalk.i64_in _ (by clear x1 x2 x3; omega)
              have x5 : IntKind.i64.wrap (uv + (P - iv) * mv) = uv + (P - iv) * mv := IntWalk.i64_in _ (by clear x1 x2 x3 x4; omega)
              have pz : ¬ P = 0 := by clear x1 x2 x3 x4 x5; omega
              have tm : (uv + (P - iv) * mv).tmod P = (uv + (P - iv) * mv) % P := Int.tmod_eq_emod_of_nonneg s3
              go_still_tail 34, (by kernel_rfl)
              clear x1 x2 x3 x4 x5 pz tm
              change wpList _ _ _ _ _ wr.drew
              clear hown hbel
              go_wp2_with (fail)
              go_roundw
              case rel => exact ⟨j + 1, by omega, by go_num, by rw [HX.out]; exact hset, hbs⟩
              case measure => simp [intOf]; omega
            · have ej : j = m := by omega
              have HEE : Hid (us = rdAll P m mod cs (n + 1)) := hid (by rw [HS.out, HU.out, ej])
              rw [HEE.out] at hown
              have hst : Hid ((i : Int) - 1 = 2 * (m : Int) - 2 - ((n + 1 : Nat) : Int)) := hid (by have := Hi.out; omega)
              clear ej
              go_wp2_with (fail)
              go_roundw
              case rel => exact ⟨n + 1, by omega, val_int hst.out, hown, hbel⟩
              case measure => simp [intOf]; omega
        · have en : n = m - 1 := by omega
          have HFF : Hid (ts.take m = rMulL P m mod xa xb) := hid (by rw [HR.out, HT.out, en])
          have hlen : m ≤ ts.length := by rw [lT.out]; have := HN.out; omega
          have hsl := hown.sl_take hlen
          rw [HFF.out] at hsl
          have lF : Hid ((rMulL P m mod xa xb).length = m) := hid (rMulL_len _ _ _ _ _ hm1)
          have dF : Digs P (rMulL P m mod xa xb) := rMulL_digs (by omega) _ _ _ _
          obtain ⟨fs, hfs⟩ : ∃ l, l = rMulL P m mod xa xb := ⟨_, rfl⟩
          rw [← hfs] at hsl lF dF
          have HFS : Hid (valL P fs = valL P (rMulL P m mod (digL P (inn (ordS P m) x) m) (digL P (inn (ordS P m) y) m))) := hid (by rw [hfs, HXA.out, HXB.out])
          have hkw : Kept w wr := hk02.tr hbel
          have en' : 2 * (m : Int) - 2 - (n : Int) < (m : Int) := by omega
          have mN : (m : Int) ≤ (N : Int) := by have := HN.out; omega
          clear hlt en hlen hfs
          go_wp2_with (fail)
          go_region_held3 (fun w' => w'.cell? ⟨w.heap.size, 0, none⟩ = some (.int .i64 P) ∧ w'.cell? ⟨w.heap.size, 1, none⟩ = some (.int .i64 m) ∧ w'.cell? ⟨w.heap.size, 2, none⟩ = some (.slice am mod.length cm)) (first | (simp [go_sem]; done) | (simp [*]; done))
            (first
              | (go_at_call 40; (with_reducible refine (rValue_any P m (.slice am mod.length cm) _ fs _ (hsl.kept (kept_drew _)) (by omega) hp2 dF (by rw [lF.out]; exact HQM.out) (by rw [lF.out]; exact hm)).mono ?_); rintro e w4 ⟨rfl, hk4⟩; have bx4 := ((bx2.below hbel bx2.lt).kept (kept_drew _)).kept hk4; have p0 := bx4.h0; have p1 := bx4.h1; have p2 := bx4.h2))
          go_wp2_with (fail)
          go_ret
          exact ⟨ret_int HFS.out, (hkw.tr (kept_drew _)).tr hk4⟩
end Go.Proofs.Ytmakdclgpeochaa
