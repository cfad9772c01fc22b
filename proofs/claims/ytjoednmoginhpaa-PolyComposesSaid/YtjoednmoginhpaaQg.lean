/- The walks of the reference's Compose, PowMod and Roots of polynomials. Conditions: a field's description; lengths are bounded. -/
import Derived.Test.YtjoednmoginhpaaQd
import Derived.Test.YtjoednmoginhpaaQf
import Derived.Test.YtjoednmoginhpaaKx
import Derived.Test.YtjoednmoginhpaaMz
namespace Go.Proofs.Ytjoednmoginhpaa
open Go.RowKit Cw

set_option maxRecDepth 100000 in
set_option maxHeartbeats 4000000 in
theorem rPowMod_p (G : GFd) (t : Tabs G) (P M : Int) (mod : List Int) (vm : Value) (vp vq : Value) (p m : List Int) (n : Nat) (w : World) (ho : Hid (Of G P M mod)) (hvm : Sl w vm mod) (hvp : Sl w vp p) (hvq : Sl w vq m) (hlp : p.length ≤ 1000) (hlm : m.length ≤ 1000) (hz : t.pl m ≠ 0) (hn : (n : Int) ≤ 9223372036854775807) :
    Calls Try.prog 49 #[.agg #[.int .i64 P, .int .i64 M, vm], vp, .int .i64 n, vq] w (OutP G t (Pl.rem (Rg.pw (t.pl p) n) (t.pl m)) w) := by
  have hk0 := kept_alloc w (.cells #[.int .i64 P, .int .i64 M, vm] 24)
  have hbx := boxF_new w P M vm 24
  have smv := hvm.kept hk0
  have svp := hvp.kept hk0
  have svq := hvq.kept hk0
  have HZ1 : (w.alloc (.cells #[.int .i64 P, .int .i64 M, vm] 24)).heap.size = w.heap.size + 1 := by simp
  have HZ1 := hid HZ1
  obtain ⟨w1, hw1⟩ : ∃ w1, w1 = w.alloc (.cells #[.int .i64 P, .int .i64 M, vm] 24) := ⟨_, rfl⟩
  rw [← hw1] at hk0 hbx smv HZ1 svp svq
  have HZ := hid hz
  clear hz
  have hbw := hbx
  have c0 := hbx.h0
  have c1 := hbx.h1
  have c2 := hbx.h2
  have hwb0 : w.heap.size ≤ w1.heap.size := hk0.size
  go_enter Try.func49, Try.ntmps49
  go_wp2_with (fail)
  rw [← hw1]
  clear hw1
  have kA := kept_alloc w1 (.cells #[.int .i64 1] 3)
  have oA := (own_one (w := w1) (B := 0) (x := 1) (Nat.zero_le _)).sl
  rw [HZ1.out] at oA
  with_reducible refine (rRem_p G t P M mod vm _ _ [1] m _ ho (smv.kept kA) oA (svq.kept kA) (by simp) (by omega) HZ.out).mono ?_
  rintro e w2 ⟨v2, l2, rfl, o2, k2, c2', p2⟩
  have K2 := kA.tr k2
  have PR2 : Hid (t.pl l2 = Pl.rem 1 (t.pl m)) := hid (by rw [p2, t.pl_one])
  have O2 := o2.mono (Nat.le_trans hwb0 kA.size)
  have b2 := hbx.kept K2
  have e0 := b2.h0
  have e1 := b2.h1
  have e2 := b2.h2
  clear p2 o2 kA k2 c0 c1 c2 b2 oA
  go_wp2_with (fail)
  refine (rRem_p G t P M mod vm _ _ p m _ ho (smv.kept K2) (svp.kept K2) (svq.kept K2) (by omega) (by omega) HZ.out).mono ?_
  rintro e w3 ⟨v3, l3, rfl, o3, k3, c3, p3⟩
  have PR3 := hid p3
  have K3 := K2.tr k3
  have O2' := O2.kept k3
  have O3 := o3.mono (Nat.le_trans hwb0 K2.size)
  clear p3 o3 k3 O2 K2 e0 e1 e2
  have hI : Hid (Pl.rem (t.pl l2 * Rg.pw (t.pl l3) n) (t.pl m) = Pl.rem (Rg.pw (t.pl p) n) (t.pl m)) := hid (by
    rw [PR2.out, PR3.out]
    refine (Pl.rem_cg HZ.out).1 ?_
    have e1 := Pl.cg_mul (Pl.cg_symm (Pl.cg_rem 1 (t.pl m))) (Pl.cg_pw (Pl.cg_symm (Pl.cg_rem (t.pl p) (t.pl m))) n)
    rwa [Rg.one_mul] at e1)
  have hln := t.pl_ln_le m
  have hl2 : l2.length ≤ 1000 := by have := t.can_ln' c2' PR2.out; have := Pl.rem_lt 1 HZ.out; omega
  have hl3 : l3.length ≤ 1000 := by have := t.can_ln' c3 PR3.out; have := Pl.rem_lt (t.pl p) HZ.out; omega
  have hred : Hid (Pl.rem (t.pl l2) (t.pl m) = t.pl l2) := hid (by rw [PR2.out]; exact Pl.rem_rem HZ.out 1)
  go_wp2_with (fail)
  go_loopw [1, 2, 9] (fun vb vn vo wr => ∃ (k : Nat) (lo lb : List Int), (k : Int) ≤ 9223372036854775807 ∧ vn = .int .i64 k ∧ Own wr w.heap.size vo lo ∧ Own wr w.heap.size vb lb ∧ Kept w1 wr ∧ Cano G lo ∧ Cano G lb ∧ lo.length ≤ 1000 ∧ lb.length ≤ 1000 ∧ Hid (Pl.rem (t.pl lo) (t.pl m) = t.pl lo) ∧
      Hid (Pl.rem (t.pl lo * Rg.pw (t.pl lb) k) (t.pl m) = Pl.rem (Rg.pw (t.pl p) n) (t.pl m))) (fun _ vn _ _ => (intOf vn).toNat)
  case atStart => exact ⟨n, l2, l3, hn, rfl, O2', O3, K3, c2', c3, hl2, hl3, hred, hI⟩
  case round =>
    obtain ⟨k, lo, lb, hk, rfl, oo, ob, hkw, co, cb, hlo, hlb, hred', hI'⟩ := hrel
    clear O2' O3 hl2 hl3 hred hI K3
    have hbw := hbx.kept hkw
    have c0 := hbw.h0
    have c1 := hbw.h1
    have c2 := hbw.h2
    have smw := smv.kept hkw
    have sqw := svq.kept hkw
    have hwb : w.heap.size ≤ wr.heap.size := Nat.le_trans hwb0 hkw.size
    have hkc := Kept.rfl' wr
    have soo := oo.sl
    have sob := ob.sl
    by_cases hkz : k = 0
    · subst hkz
      have HF : Hid (t.pl lo = Pl.rem (Rg.pw (t.pl p) n) (t.pl m)) := hid (by
        have := hI'.out
        rwa [Rg.pw_zero, Rg.mul_one, hred'.out] at this)
      go_wp2_with (fail)
      go_ret
      exact ⟨_, lo, rfl, oo, hk0.tr hkw, co, HF.out⟩
    have tn : (0 : Int) < (k : Int) := by omega
    have tn0 : (0 : Int) ≤ (k : Int) := by omega
    have HK0 := hid hkz
    clear hkz
    by_cases hodd : k % 2 = 1
    · have tod : ((k : Int) % 2 == 1) = true := by simp; omega
      have HODD := hid hodd
      clear hodd
      go_wp2_with (fail)
      have HKB := hid hk
      clear hk tod tn tn0 hn
      go_region_held3 (fun w' => w'.cell? ⟨w.heap.size, 0, none⟩ = some (.int .i64 P) ∧ w'.cell? ⟨w.heap.size, 1, none⟩ = some (.int .i64 M) ∧ w'.cell? ⟨w.heap.size, 2, none⟩ = some vm) (first | (simp [go_sem]; done) | (simp [*]; done))
        (first
          | (go_at_call 26; (with_reducible refine (rMul_p G t P M mod vm _ _ lo lb _ ho (smw.kept (by first | exact hkc | exact hkc.tr (kept_drew _) | exact hkc.tr (kept_alloc _ _) | exact hkc.tr (kept_drewN _ _))) (soo.kept (by first | exact hkc | exact hkc.tr (kept_drew _) | exact hkc.tr (kept_alloc _ _) | exact hkc.tr (kept_drewN _ _))) (sob.kept (by first | exact hkc | exact hkc.tr (kept_drew _) | exact hkc.tr (kept_alloc _ _) | exact hkc.tr (kept_drewN _ _))) (by omega) (by omega)).mono ?_); rintro e wx ⟨v4, l4, rfl, o4, kx, c4, p4⟩; have P4 := hid p4; have o4 := o4.mono (Nat.le_trans hwb (Below.size (show Kept wr _ from (by first | exact hkc | exact hkc.tr (kept_drew _) | exact hkc.tr (kept_alloc _ _) | exact hkc.tr (kept_drewN _ _))))); have hkn := Kept.tr (b := _) (by first | exact hkc | exact hkc.tr (kept_drew _) | exact hkc.tr (kept_alloc _ _) | exact hkc.tr (kept_drewN _ _)) kx; clear p4 hkc kx; have hkc := hkn; clear hkn; have bxx := hbw.kept hkc; have d0 := bxx.h0; have d1 := bxx.h1; have d2 := bxx.h2; have n4 : l4.length ≤ 5000 := (by have := t.can_ln' c4 P4.out; have := Pl.ln_mul_le (t.pl lo) (t.pl lb); have := t.pl_ln_le lo; have := t.pl_ln_le lb; omega))
          | (go_at_call 54; (with_reducible refine (rRem_p G t P M mod vm _ _ l4 m _ ho (smw.kept (by first | exact hkc | exact hkc.tr (kept_drew _) | exact hkc.tr (kept_alloc _ _) | exact hkc.tr (kept_drewN _ _))) (o4.sl.kept (by first | exact Kept.rfl' _ | exact kept_drew _ | exact kept_drewN _ _ | exact kept_alloc _ _)) (sqw.kept (by first | exact hkc | exact hkc.tr (kept_drew _) | exact hkc.tr (kept_alloc _ _) | exact hkc.tr (kept_drewN _ _))) (by omega) (by omega) HZ.out).mono ?_); rintro e wx ⟨v5, l5, rfl, o5, kx, c5, p5⟩; have P5 := hid p5; have o5 := o5.mono (Nat.le_trans hwb (Below.size (show Kept wr _ from (by first | exact hkc | exact hkc.tr (kept_drew _) | exact hkc.tr (kept_alloc _ _) | exact hkc.tr (kept_drewN _ _))))); have hkn := Kept.tr (b := _) (by first | exact hkc | exact hkc.tr (kept_drew _) | exact hkc.tr (kept_alloc _ _) | exact hkc.tr (kept_drewN _ _)) kx; clear p5 hkc kx; have hkc := hkn; clear hkn; have bxx := hbw.kept hkc; have d0 := bxx.h0; have d1 := bxx.h1; have d2 := bxx.h2; have n5 : l5.length ≤ 1000 := (by have := t.can_ln' c5 P5.out; have := Pl.rem_lt (t.pl l4) HZ.out; omega)))
      all_goals
        go_wp2_with (fail)
        go_region_held3 (fun w' => w'.cell? ⟨w.heap.size, 0, none⟩ = some (.int .i64 P) ∧ w'.cell? ⟨w.heap.size, 1, none⟩ = some (.int .i64 M) ∧ w'.cell? ⟨w.heap.size, 2, none⟩ = some vm) (first | (simp [go_sem]; done) | (simp [*]; done))
          (first
            | (go_at_call 26; (with_reducible refine (rMul_p G t P M mod vm _ _ lb lb _ ho (smw.kept (by first | exact hkc | exact hkc.tr (kept_drew _) | exact hkc.tr (kept_alloc _ _) | exact hkc.tr (kept_drewN _ _))) (sob.kept (by first | exact hkc | exact hkc.tr (kept_drew _) | exact hkc.tr (kept_alloc _ _) | exact hkc.tr (kept_drewN _ _))) (sob.kept (by first | exact hkc | exact hkc.tr (kept_drew _) | exact hkc.tr (kept_alloc _ _) | exact hkc.tr (kept_drewN _ _))) (by omega) (by omega)).mono ?_); rintro e wx ⟨v6, l6, rfl, o6, kx, c6, p6⟩; have P6 := hid p6; have o6 := o6.mono (Nat.le_trans hwb (Below.size (show Kept wr _ from (by first | exact hkc | exact hkc.tr (kept_drew _) | exact hkc.tr (kept_alloc _ _) | exact hkc.tr (kept_drewN _ _))))); have o5 := (o5.kept (by first | exact Kept.rfl' _ | exact kept_drew _ | exact kept_drewN _ _ | exact kept_alloc _ _)).kept kx; have hkn := Kept.tr (b := _) (by first | exact hkc | exact hkc.tr (kept_drew _) | exact hkc.tr (kept_alloc _ _) | exact hkc.tr (kept_drewN _ _)) kx; clear p6 hkc kx; have hkc := hkn; clear hkn; have bxx := hbw.kept hkc; have d0 := bxx.h0; have d1 := bxx.h1; have d2 := bxx.h2; have n6 : l6.length ≤ 5000 := (by have := t.can_ln' c6 P6.out; have := Pl.ln_mul_le (t.pl lb) (t.pl lb); have := t.pl_ln_le lb; have := t.pl_ln_le lb; omega))
            | (go_at_call 54; (with_reducible refine (rRem_p G t P M mod vm _ _ l6 m _ ho (smw.kept (by first | exact hkc | exact hkc.tr (kept_drew _) | exact hkc.tr (kept_alloc _ _) | exact hkc.tr (kept_drewN _ _))) (o6.sl.kept (by first | exact Kept.rfl' _ | exact kept_drew _ | exact kept_drewN _ _ | exact kept_alloc _ _)) (sqw.kept (by first | exact hkc | exact hkc.tr (kept_drew _) | exact hkc.tr (kept_alloc _ _) | exact hkc.tr (kept_drewN _ _))) (by omega) (by omega) HZ.out).mono ?_); rintro e wx ⟨v7, l7, rfl, o7, kx, c7, p7⟩; have P7 := hid p7; have o7 := o7.mono (Nat.le_trans hwb (Below.size (show Kept wr _ from (by first | exact hkc | exact hkc.tr (kept_drew _) | exact hkc.tr (kept_alloc _ _) | exact hkc.tr (kept_drewN _ _))))); have o5 := (o5.kept (by first | exact Kept.rfl' _ | exact kept_drew _ | exact kept_drewN _ _ | exact kept_alloc _ _)).kept kx; have hkn := Kept.tr (b := _) (by first | exact hkc | exact hkc.tr (kept_drew _) | exact hkc.tr (kept_alloc _ _) | exact hkc.tr (kept_drewN _ _)) kx; clear p7 hkc kx; have hkc := hkn; clear hkn; have bxx := hbw.kept hkc; have d0 := bxx.h0; have d1 := bxx.h1; have d2 := bxx.h2; have n7 : l7.length ≤ 1000 := (by have := t.can_ln' c7 P7.out; have := Pl.rem_lt (t.pl l6) HZ.out; omega)))
        all_goals
          have hk := HKB.out
          have tn0 : (0 : Int) ≤ (k : Int) := by omega
          have HR : Hid (Pl.rem (t.pl l5) (t.pl m) = t.pl l5) := hid (by rw [P5.out]; exact Pl.rem_rem HZ.out _)
          have HI : Hid (Pl.rem (t.pl l5 * Rg.pw (t.pl l7) (k / 2)) (t.pl m) = Pl.rem (Rg.pw (t.pl p) n) (t.pl m)) := hid (by
            rw [P5.out, P4.out, P7.out, P6.out, Pl.pow_odd HZ.out HODD.out, hI'.out])
          go_wp2_with (fail)
          go_roundw
          case rel => exact ⟨k / 2, l5, l7, by omega, val_int (by omega), o5.kept (by first | exact Kept.rfl' _ | exact kept_drew _ | exact kept_drewN _ _ | exact kept_alloc _ _), o7.kept (by first | exact Kept.rfl' _ | exact kept_drew _ | exact kept_drewN _ _ | exact kept_alloc _ _), hkw.tr (by first | exact hkc | exact hkc.tr (kept_drew _) | exact hkc.tr (kept_alloc _ _) | exact hkc.tr (kept_drewN _ _)), c5, c7, n5, n7, HR, HI⟩
          case measure => have := HK0.out; simp [intOf]; omega
    · have tod : ((k : Int) % 2 == 1) = false := by simp; omega
      have HEV : Hid (k % 2 = 0) := hid (by omega)
      clear hodd
      go_wp2_with (fail)
      have HKB := hid hk
      clear hk tod tn tn0 hn
      go_region_held3 (fun w' => w'.cell? ⟨w.heap.size, 0, none⟩ = some (.int .i64 P) ∧ w'.cell? ⟨w.heap.size, 1, none⟩ = some (.int .i64 M) ∧ w'.cell? ⟨w.heap.size, 2, none⟩ = some vm) (first | (simp [go_sem]; done) | (simp [*]; done))
        (first
          | (go_at_call 26; (with_reducible refine (rMul_p G t P M mod vm _ _ lb lb _ ho (smw.kept (by first | exact hkc | exact hkc.tr (kept_drew _) | exact hkc.tr (kept_alloc _ _) | exact hkc.tr (kept_drewN _ _))) (sob.kept (by first | exact hkc | exact hkc.tr (kept_drew _) | exact hkc.tr (kept_alloc _ _) | exact hkc.tr (kept_drewN _ _))) (sob.kept (by first | exact hkc | exact hkc.tr (kept_drew _) | exact hkc.tr (kept_alloc _ _) | exact hkc.tr (kept_drewN _ _))) (by omega) (by omega)).mono ?_); rintro e wx ⟨v6, l6, rfl, o6, kx, c6, p6⟩; have P6 := hid p6; have o6 := o6.mono (Nat.le_trans hwb (Below.size (show Kept wr _ from (by first | exact hkc | exact hkc.tr (kept_drew _) | exact hkc.tr (kept_alloc _ _) | exact hkc.tr (kept_drewN _ _))))); have oo := (oo.kept (by first | exact Kept.rfl' _ | exact kept_drew _ | exact kept_drewN _ _ | exact kept_alloc _ _)).kept kx; have hkn := Kept.tr (b := _) (by first | exact hkc | exact hkc.tr (kept_drew _) | exact hkc.tr (kept_alloc _ _) | exact hkc.tr (kept_drewN _ _)) kx; clear p6 hkc kx; have hkc := hkn; clear hkn; have bxx := hbw.kept hkc; have d0 := bxx.h0; have d1 := bxx.h1; have d2 := bxx.h2; have n6 : l6.length ≤ 5000 := (by have := t.can_ln' c6 P6.out; have := Pl.ln_mul_le (t.pl lb) (t.pl lb); have := t.pl_ln_le lb; have := t.pl_ln_le lb; omega))
          | (go_at_call 54; (with_reducible refine (rRem_p G t P M mod vm _ _ l6 m _ ho (smw.kept (by first | exact hkc | exact hkc.tr (kept_drew _) | exact hkc.tr (kept_alloc _ _) | exact hkc.tr (kept_drewN _ _))) (o6.sl.kept (by first | exact Kept.rfl' _ | exact kept_drew _ | exact kept_drewN _ _ | exact kept_alloc _ _)) (sqw.kept (by first | exact hkc | exact hkc.tr (kept_drew _) | exact hkc.tr (kept_alloc _ _) | exact hkc.tr (kept_drewN _ _))) (by omega) (by omega) HZ.out).mono ?_); rintro e wx ⟨v7, l7, rfl, o7, kx, c7, p7⟩; have P7 := hid p7; have o7 := o7.mono (Nat.le_trans hwb (Below.size (show Kept wr _ from (by first | exact hkc | exact hkc.tr (kept_drew _) | exact hkc.tr (kept_alloc _ _) | exact hkc.tr (kept_drewN _ _))))); have oo := (oo.kept (by first | exact Kept.rfl' _ | exact kept_drew _ | exact kept_drewN _ _ | exact kept_alloc _ _)).kept kx; have hkn := Kept.tr (b := _) (by first | exact hkc | exact hkc.tr (kept_drew _) | exact hkc.tr (kept_alloc _ _) | exact hkc.tr (kept_drewN _ _)) kx; clear p7 hkc kx; have hkc := hkn; clear hkn; have bxx := hbw.kept hkc; have d0 := bxx.h0; have d1 := bxx.h1; have d2 := bxx.h2; have n7 : l7.length ≤ 1000 := (by have := t.can_ln' c7 P7.out; have := Pl.rem_lt (t.pl l6) HZ.out; omega)))
      all_goals
        have hk := HKB.out
        have tn0 : (0 : Int) ≤ (k : Int) := by omega
        have HI : Hid (Pl.rem (t.pl lo * Rg.pw (t.pl l7) (k / 2)) (t.pl m) = Pl.rem (Rg.pw (t.pl p) n) (t.pl m)) := hid (by
          rw [P7.out, P6.out, Pl.pow_even HZ.out HEV.out, hI'.out])
        go_wp2_with (fail)
        go_roundw
        case rel => exact ⟨k / 2, lo, l7, by omega, val_int (by omega), oo.kept (by first | exact Kept.rfl' _ | exact kept_drew _ | exact kept_drewN _ _ | exact kept_alloc _ _), o7.kept (by first | exact Kept.rfl' _ | exact kept_drew _ | exact kept_drewN _ _ | exact kept_alloc _ _), hkw.tr (by first | exact hkc | exact hkc.tr (kept_drew _) | exact hkc.tr (kept_alloc _ _) | exact hkc.tr (kept_drewN _ _)), co, c7, hlo, n7, hred', HI⟩
        case measure => have := HK0.out; simp [intOf]; omega
/-- The first k terms of p(q). -/
noncomputable def cmT {α : Type} [Cw.Fd α] (p q : Pl α) (k : Nat) : Pl α := Rg.sm k (fun i => Pl.c (p.a i) * Rg.pw q i)
theorem cmT_succ {α : Type} [Cw.Fd α] (p q : Pl α) (k : Nat) : cmT p q (k + 1) = cmT p q k + Pl.c (p.a k) * Rg.pw q k := rfl
set_option maxRecDepth 100000 in
set_option maxHeartbeats 4000000 in
theorem rCompose_p (G : GFd) (t : Tabs G) (P M : Int) (mod : List Int) (vm : Value) (vp vq : Value) (p q : List Int) (w : World) (ho : Hid (Of G P M mod)) (hvm : Sl w vm mod) (hvp : Sl w vp p) (hvq : Sl w vq q) (hlp : p.length ≤ 50) (hlq : q.length ≤ 50) :
    Calls Try.prog 51 #[.agg #[.int .i64 P, .int .i64 M, vm], vp, vq] w (OutP G t (Pl.cmp (t.pl p) (t.pl q)) w) := by
  have hk0 := kept_alloc w (.cells #[.int .i64 P, .int .i64 M, vm] 24)
  have hbx := boxF_new w P M vm 24
  have smv := hvm.kept hk0
  have svp := hvp.kept hk0
  have svq := hvq.kept hk0
  have HZ1 : (w.alloc (.cells #[.int .i64 P, .int .i64 M, vm] 24)).heap.size = w.heap.size + 1 := by simp
  have HZ1 := hid HZ1
  obtain ⟨w1, hw1⟩ : ∃ w1, w1 = w.alloc (.cells #[.int .i64 P, .int .i64 M, vm] 24) := ⟨_, rfl⟩
  rw [← hw1] at hk0 hbx smv HZ1 svp svq
  obtain ⟨ap, capp, rfl, hcapp, ⟨hcmp, _⟩, hcp⟩ := svp
  unfold maxLen at hcmp
  have svp := hvp.kept hk0
  have hwb0 : w.heap.size ≤ w1.heap.size := hk0.size
  have kA := kept_alloc w1 (.cells #[] 3)
  have kB := kept_alloc (w1.alloc (.cells #[] 3)) (.cells #[.int .i64 1] 3)
  have oA := (own_zero (w := w1) (B := w.heap.size) hwb0).kept kB
  have oB := (own_one (w := w1.alloc (.cells #[] 3)) (B := 0) (x := 1) (Nat.zero_le _)).sl
  rw [HZ1.out] at oA
  simp only [World.size_alloc, HZ1.out] at oB
  have hlp1 := t.pl_ln_le p
  go_enter Try.func51, Try.ntmps51
  go_wp2_with (fail)
  rw [← hw1]
  clear hw1
  go_loopw [7, 8, 9] (fun vo vw vi wr => ∃ (k : Nat) (lo lw : List Int), k ≤ (t.pl p).ln ∧ vi = .int .i64 k ∧ Own wr w.heap.size vo lo ∧ Sl wr vw lw ∧ Kept w1 wr ∧ Cano G lo ∧ Cano G lw ∧ Hid (t.pl lo = cmT (t.pl p) (t.pl q) k) ∧ Hid (t.pl lw = Rg.pw (t.pl q) k) ∧ lo.length ≤ 2501) (fun _ _ vi _ => (t.pl p).ln - (intOf vi).toNat)
  case atStart => exact ⟨0, [], [1], by omega, rfl, oA, oB, kA.tr kB, can_nil G, cano_one t, hid t.pl_nil, hid t.pl_one, by simp⟩
  case round =>
    obtain ⟨k, lo, lw, hk, rfl, oo, sw, hkw, co, cw, hI, hW, hlo⟩ := hrel
    clear oA oB kA kB
    have hbw := hbx.kept hkw
    have c0 := hbw.h0
    have c1 := hbw.h1
    have c2 := hbw.h2
    have smw := smv.kept hkw
    have spw := svp.kept hkw
    have sqw := svq.kept hkw
    have hwb : w.heap.size ≤ wr.heap.size := Nat.le_trans hwb0 hkw.size
    have hkc := Kept.rfl' wr
    have soo := oo.sl
    have hlw : lw.length ≤ 2501 := by
      have g1 := t.can_ln' cw hW.out
      have g2 := Pl.ln_pw_le (t.pl q) k
      have g3 : k * ((t.pl q).ln - 1) ≤ 50 * 50 := Nat.mul_le_mul (by omega) (by have := t.pl_ln_le q; omega)
      omega
    by_cases hlt : k < (t.pl p).ln
    · have hkp : k < p.length := by omega
      obtain ⟨bp, off, rfl, hbp, hcell⟩ := hcp (by intro e; rw [e] at hkp; simp at hkp)
      have hck := (Kept.cell' hkw hbp).trans (hcell k hkp)
      have hbp' : bp < wr.heap.size := Nat.lt_of_lt_of_le hbp hkw.size
      have hst : Hid (cmT (t.pl p) (t.pl q) (k + 1) = cmT (t.pl p) (t.pl q) k + Pl.c (t.e (p.getD k 0)) * Rg.pw (t.pl q) k) := hid (by rw [cmT_succ, t.pl_at])
      obtain ⟨z, hz⟩ : ∃ z, z = p.getD k 0 := ⟨_, rfl⟩
      rw [← hz] at hck hst
      have hle : (k : Int) ≤ ((t.pl p).ln : Int) - 1 := by omega
      have hki : (k : Int) < (p.length : Int) := by omega
      have k0 : (0 : Int) ≤ (k : Int) := by omega
      clear hz hcell hcp
      go_wp2_with (go_at_call 24; (with_reducible refine (rDegree_p G t P M mod vm _ p _ ho spw (by omega)).mono ?_); rintro e wx ⟨rfl, kx⟩; have hkn := Kept.tr (b := _) (by first | exact hkc | exact hkc.tr (kept_drew _) | exact hkc.tr (kept_drewN _ _)) kx; clear hkc kx; have hkc := hkn; clear hkn; have bxx := hbw.kept hkc; have d0 := bxx.h0; have d1 := bxx.h1; have d2 := bxx.h2; have d3 := (Kept.cell' hkc hbp').trans hck)
      go_region_held3 (fun w' => w'.cell? ⟨w.heap.size, 0, none⟩ = some (.int .i64 P) ∧ w'.cell? ⟨w.heap.size, 1, none⟩ = some (.int .i64 M) ∧ w'.cell? ⟨w.heap.size, 2, none⟩ = some vm ∧ w'.cell? ⟨bp, off + k, none⟩ = some (.int .i64 z)) (first | (simp [go_sem]; done) | (simp [*]; done))
        (first
          | (go_at_call 33; (with_reducible refine (rScale_p G t P M mod vm z _ lw _ ho (smw.kept (by first | exact hkc | exact hkc.tr (kept_drew _) | exact hkc.tr (kept_alloc _ _) | exact hkc.tr (kept_drewN _ _))) (sw.kept (by first | exact hkc | exact hkc.tr (kept_drew _) | exact hkc.tr (kept_alloc _ _) | exact hkc.tr (kept_drewN _ _))) (by omega)).mono ?_); rintro e wx ⟨v4, l4, rfl, o4, kx, c4, p4⟩; have P4 := hid p4; have o4 := o4.mono (Nat.le_trans hwb (Below.size (show Kept wr _ from (by first | exact hkc | exact hkc.tr (kept_drew _) | exact hkc.tr (kept_alloc _ _) | exact hkc.tr (kept_drewN _ _))))); have hkn := Kept.tr (b := _) (by first | exact hkc | exact hkc.tr (kept_drew _) | exact hkc.tr (kept_alloc _ _) | exact hkc.tr (kept_drewN _ _)) kx; clear p4 hkc kx; have hkc := hkn; clear hkn; have bxx := hbw.kept hkc; have d0 := bxx.h0; have d1 := bxx.h1; have d2 := bxx.h2; have d3 := (Kept.cell' hkc hbp').trans hck; have n4 : l4.length ≤ 2501 := (by have := t.can_ln' c4 P4.out; have := Pl.ln_cmul_le (t.e z) (t.pl lw); have := t.pl_ln_le lw; omega))
          | (go_at_call 25; (with_reducible refine (rAdd_p G t P M mod vm _ _ lo l4 _ ho (smw.kept (by first | exact hkc | exact hkc.tr (kept_drew _) | exact hkc.tr (kept_alloc _ _) | exact hkc.tr (kept_drewN _ _))) (soo.kept (by first | exact hkc | exact hkc.tr (kept_drew _) | exact hkc.tr (kept_alloc _ _) | exact hkc.tr (kept_drewN _ _))) (o4.sl.kept (by first | exact Kept.rfl' _ | exact kept_drew _ | exact kept_drewN _ _ | exact kept_alloc _ _)) (by omega) (by omega)).mono ?_); rintro e wx ⟨v5, l5, rfl, o5, kx, c5, p5⟩; have P5 := hid p5; have o5 := o5.mono (Nat.le_trans hwb (Below.size (show Kept wr _ from (by first | exact hkc | exact hkc.tr (kept_drew _) | exact hkc.tr (kept_alloc _ _) | exact hkc.tr (kept_drewN _ _))))); have hkn := Kept.tr (b := _) (by first | exact hkc | exact hkc.tr (kept_drew _) | exact hkc.tr (kept_alloc _ _) | exact hkc.tr (kept_drewN _ _)) kx; clear p5 hkc kx; have hkc := hkn; clear hkn; have bxx := hbw.kept hkc; have d0 := bxx.h0; have d1 := bxx.h1; have d2 := bxx.h2; have d3 := (Kept.cell' hkc hbp').trans hck; have n5 : l5.length ≤ 2501 := (by have := t.can_ln' c5 P5.out; have := Pl.ln_add_le (p := t.pl lo) (q := t.pl l4) (n := 2501) (by have := t.pl_ln_le lo; omega) (by have := t.pl_ln_le l4; omega); omega)))
      all_goals
        go_wp2_with (go_at_call 26; (with_reducible refine (rMul_p G t P M mod vm _ _ lw q _ ho (smw.kept (by first | exact hkc | exact hkc.tr (kept_drew _) | exact hkc.tr (kept_alloc _ _) | exact hkc.tr (kept_drewN _ _))) (sw.kept (by first | exact hkc | exact hkc.tr (kept_drew _) | exact hkc.tr (kept_alloc _ _) | exact hkc.tr (kept_drewN _ _))) (sqw.kept (by first | exact hkc | exact hkc.tr (kept_drew _) | exact hkc.tr (kept_alloc _ _) | exact hkc.tr (kept_drewN _ _))) (by omega) (by omega)).mono ?_); rintro e wx ⟨v6, l6, rfl, o6, kx, c6, p6⟩; have P6 := hid p6; have o6 := o6.mono (Nat.le_trans hwb (Below.size (show Kept wr _ from (by first | exact hkc | exact hkc.tr (kept_drew _) | exact hkc.tr (kept_alloc _ _) | exact hkc.tr (kept_drewN _ _))))); have o5 := (o5.kept (by first | exact Kept.rfl' _ | exact kept_drew _ | exact kept_drewN _ _ | exact kept_alloc _ _)).kept kx; have hkn := Kept.tr (b := _) (by first | exact hkc | exact hkc.tr (kept_drew _) | exact hkc.tr (kept_alloc _ _) | exact hkc.tr (kept_drewN _ _)) kx; clear p6 hkc kx; have hkc := hkn; clear hkn; have bxx := hbw.kept hkc; have d0 := bxx.h0; have d1 := bxx.h1; have d2 := bxx.h2)
        go_roundw
        case rel => exact ⟨k + 1, l5, l6, by omega, by go_num, o5.kept (by first | exact Kept.rfl' _ | exact kept_drew _ | exact kept_drewN _ _ | exact kept_alloc _ _), o6.sl.kept (by first | exact Kept.rfl' _ | exact kept_drew _ | exact kept_drewN _ _ | exact kept_alloc _ _), hkw.tr (by first | exact hkc | exact hkc.tr (kept_drew _) | exact hkc.tr (kept_alloc _ _) | exact hkc.tr (kept_drewN _ _)), c5, c6, hid (by rw [P5.out, P4.out, hI.out, hW.out, hst.out]), hid (by rw [P6.out, hW.out]; rfl), n5⟩
        case measure => simp [intOf]; omega
    · have ek : k = (t.pl p).ln := by omega
      have HF : Hid (t.pl lo = Pl.cmp (t.pl p) (t.pl q)) := hid (by rw [hI.out, ek]; rfl)
      have hge : ((t.pl p).ln : Int) - 1 < (k : Int) := by omega
      clear ek
      go_wp2_with (go_at_call 24; (with_reducible refine (rDegree_p G t P M mod vm _ p _ ho spw (by omega)).mono ?_); rintro e wx ⟨rfl, kx⟩; have hkn := Kept.tr (b := _) (by first | exact hkc | exact hkc.tr (kept_drew _) | exact hkc.tr (kept_drewN _ _)) kx; clear hkc kx; have hkc := hkn; clear hkn; have bxx := hbw.kept hkc; have d0 := bxx.h0; have d1 := bxx.h1; have d2 := bxx.h2)
      go_ret
      exact ⟨_, lo, rfl, oo.kept (by first | exact hkc | exact hkc.tr (kept_drew _) | exact hkc.tr (kept_alloc _ _) | exact hkc.tr (kept_drewN _ _)), hk0.tr (hkw.tr (by first | exact hkc | exact hkc.tr (kept_drew _) | exact hkc.tr (kept_alloc _ _) | exact hkc.tr (kept_drewN _ _))), co, HF.out⟩
end Go.Proofs.Ytjoednmoginhpaa
