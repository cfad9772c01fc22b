/- The walks of the reference's MulOrder and Pow. Conditions: a field's description. -/
import Derived.Test.YtnmidgcmlkofjaaRg
import Derived.Test.YtnmidgcmlkofjaaMn
namespace Go.Proofs.Ytnmidgcmlkofjaa
open Go.RowKit Cw

set_option maxHeartbeats 800000 in
theorem rMulOrder_any (G : GFd) (t : Tabs G) (P M : Int) (mod : List Int) (vm : Value) (x0 : Int) (w : World) (ho : Hid (Of G P M mod)) (hvm : Sl w vm mod) :
    Calls Try.prog 40 #[.agg #[.int .i64 P, .int .i64 M, vm], .int .i64 x0] w fun e w' => e = .returned (.int .i64 (if inn G.q x0 = 0 then 0 else (ordG G x0 : Nat))) ∧ Kept w w' := by
  have hk0 := kept_alloc w (.cells #[.int .i64 P, .int .i64 M, vm] 24)
  have hbx := boxF_new w P M vm 24
  have hsv := hvm.kept hk0
  obtain ⟨q1, q2, q3, q4, q5, q6, q7⟩ := t.qb
  have Q7 := hid q7
  have HQ : Hid (inn (ordS P M) x0 = inn G.q x0) := hid (by rw [← ho.out.1, ← ho.out.2.1, ← t.hq])
  have hX := inn_bd (q := G.q) (by omega) x0
  obtain ⟨X, hXe⟩ : ∃ X, X = inn G.q x0 := ⟨_, rfl⟩
  clear q7
  by_cases hx : inn G.q x0 = 0
  · rw [if_pos hx]
    have HX : Hid (inn (ordS P M) x0 = 0) := hid (by rw [HQ.out, hx])
    clear hx hXe
    go_enter Try.func40, Try.ntmps40
    go_wp2_with (go_at_call 23; (with_reducible refine (rIn_any P M vm x0 _).mono ?_); rintro e w1 ⟨rfl, k1⟩; rw [HX.out])
    go_ret
    exact ⟨rfl, hk0.tr k1⟩
  · rw [if_neg hx]
    have HX0 := hid hx
    have HX : Hid (inn (ordS P M) x0 = X) := hid (by rw [HQ.out, hXe])
    have tx : (X == 0) = false := by rw [hXe]; simpa using hx
    have o1 := t.ord_pos x0
    have o2 := t.ord_le x0
    have HI : Hid (∀ n, rpG G X n = rpG G x0 n) := hid (fun n => by rw [hXe, t.rp_inn])
    have H1 : Hid (X = rpG G x0 1) := hid (by rw [hXe, t.rp_one])
    have HM : Hid (∀ n, mulG G (rpG G x0 n) X = rpG G x0 (n + 1)) := hid (fun n => by rw [← HI.out n, ← HI.out (n + 1)]; rfl)
    clear hx hXe hX
    go_enter Try.func40, Try.ntmps40
    go_wp2_with (go_at_call 23; (with_reducible refine (rIn_any P M vm x0 _).mono ?_); rintro e w1 ⟨rfl, k1⟩; rw [HX.out])
    have hk01 := hk0.tr k1
    go_loopw [5, 6] (fun vn vy wr => ∃ n : Nat, 1 ≤ n ∧ n ≤ ordG G x0 ∧ vn = .int .i64 n ∧ vy = .int .i64 (rpG G x0 n) ∧ Kept w1 wr) (fun vn _ _ => ordG G x0 - (intOf vn).toNat)
    case atStart => exact ⟨1, by omega, by omega, rfl, val_int H1.out, Kept.rfl' _⟩
    case round =>
      obtain ⟨n, n1, n2, rfl, rfl, hkw⟩ := hrel
      have hbw := (hbx.kept k1).kept hkw
      have c0 := hbw.h0
      have c1 := hbw.h1
      have c2 := hbw.h2
      have hiff := hid (t.rp_one_iff HX0.out n1 n2)
      obtain ⟨y, hy⟩ : ∃ y, y = rpG G x0 n := ⟨_, rfl⟩
      rw [← hy] at hiff ⊢
      have HY := hid hy
      clear hy
      by_cases he : n = ordG G x0
      · have hy1 : y = 1 := hiff.out.2 he
        subst hy1
        have HE := hid he
        clear he
        go_wp2_with (fail)
        go_ret
        exact ⟨ret_int (by rw [HE.out]), hk01.tr hkw⟩
      · have ty : (y != 1) = true := by
          have : y ≠ 1 := fun e => he (hiff.out.1 e)
          simpa using this
        have hs : Hid (mulG G y X = rpG G x0 (n + 1)) := hid (by rw [HY.out, HM.out])
        go_wp2_with (go_at_call 21; (with_reducible refine (rMul_field G t P M mod vm y X _ ho.out (hsv.kept (k1.tr hkw))).mono ?_); rintro e w2 ⟨rfl, k2⟩)
        go_roundw
        case rel => exact ⟨n + 1, by omega, by omega, by go_num, val_int hs.out, hkw.tr k2⟩
        case measure => simp [intOf]; omega

theorem rPow_zero (P M : Int) (vm : Value) (x0 : Int) (w : World) :
    Calls Try.prog 46 #[.agg #[.int .i64 P, .int .i64 M, vm], .int .i64 x0, .int .i64 0] w fun e w' => e = .returned (.tuple #[.int .i64 1, .int .i64 0]) ∧ Kept w w' := by
  have hk0 := kept_alloc w (.cells #[.int .i64 P, .int .i64 M, vm] 24)
  have hbx := boxF_new w P M vm 24
  go_enter Try.func46, Try.ntmps46
  go_wp2_with (go_at_call 23; (with_reducible refine (rIn_any P M vm x0 _).mono ?_); rintro e w1 ⟨rfl, k1⟩)
  go_ret2
  exact ⟨rfl, hk0.tr k1⟩
theorem rPow_neg (P M : Int) (vm : Value) (x0 n : Int) (w : World) (hx : inn (ordS P M) x0 = 0) (hn : n < 0) :
    Calls Try.prog 46 #[.agg #[.int .i64 P, .int .i64 M, vm], .int .i64 x0, .int .i64 n] w fun e w' => e = .returned (.tuple #[.int .i64 0, .int .i64 7]) ∧ Kept w w' := by
  have hk0 := kept_alloc w (.cells #[.int .i64 P, .int .i64 M, vm] 24)
  have hbx := boxF_new w P M vm 24
  have HX := hid hx
  clear hx
  have t0 : (n == 0) = false := by simp; omega
  go_enter Try.func46, Try.ntmps46
  go_wp2_with (go_at_call 23; (with_reducible refine (rIn_any P M vm x0 _).mono ?_); rintro e w1 ⟨rfl, k1⟩; rw [HX.out])
  go_ret2
  exact ⟨rfl, hk0.tr k1⟩
theorem rPow_nought (P M : Int) (vm : Value) (x0 n : Int) (w : World) (hx : inn (ordS P M) x0 = 0) (hn : 0 < n) :
    Calls Try.prog 46 #[.agg #[.int .i64 P, .int .i64 M, vm], .int .i64 x0, .int .i64 n] w fun e w' => e = .returned (.tuple #[.int .i64 0, .int .i64 0]) ∧ Kept w w' := by
  have hk0 := kept_alloc w (.cells #[.int .i64 P, .int .i64 M, vm] 24)
  have hbx := boxF_new w P M vm 24
  have HX := hid hx
  clear hx
  have t0 : (n == 0) = false := by simp; omega
  go_enter Try.func46, Try.ntmps46
  go_wp2_with (go_at_call 23; (with_reducible refine (rIn_any P M vm x0 _).mono ?_); rintro e w1 ⟨rfl, k1⟩; rw [HX.out])
  go_ret2
  exact ⟨rfl, hk0.tr k1⟩
set_option maxHeartbeats 800000 in
theorem rPow_ok (G : GFd) (t : Tabs G) (P M : Int) (mod : List Int) (vm : Value) (x0 n : Int) (w : World) (ho : Hid (Of G P M mod)) (hvm : Sl w vm mod) (hx : inn G.q x0 ≠ 0) (hn : n ≠ 0) (_hn1 : -9223372036854775808 ≤ n) (_hn2 : n ≤ 9223372036854775807) :
    Calls Try.prog 46 #[.agg #[.int .i64 P, .int .i64 M, vm], .int .i64 x0, .int .i64 n] w fun e w' => e = .returned (.tuple #[.int .i64 (powG G x0 n), .int .i64 0]) ∧ Kept w w' := by
  have hk0 := kept_alloc w (.cells #[.int .i64 P, .int .i64 M, vm] 24)
  have hbx := boxF_new w P M vm 24
  have hsv := hvm.kept hk0
  obtain ⟨q1, q2, q3, q4, q5, q6, q7⟩ := t.qb
  have Q7 := hid q7
  have HO : Hid (ordS P M = G.q) := hid (by rw [← ho.out.1, ← ho.out.2.1, ← t.hq])
  obtain ⟨X, hXe⟩ : ∃ X, X = inn G.q x0 := ⟨_, rfl⟩
  have HX : Hid (inn (ordS P M) x0 = X) := hid (by rw [HO.out, hXe])
  have tx : (X == 0) = false := by rw [hXe]; simpa using hx
  have tn : (n == 0) = false := by simpa using hn
  have HI : Hid (∀ n, rpG G X n = rpG G x0 n) := hid (fun n => by rw [hXe, t.rp_inn])
  have HM : Hid (∀ n, mulG G (rpG G x0 n) X = rpG G x0 (n + 1)) := hid (fun n => by rw [← HI.out n, ← HI.out (n + 1)]; rfl)
  have HF : Hid (rpG G x0 (n % (G.q - 1)).toNat = powG G x0 n) := hid (t.rp_pow hx n)
  clear q7 hx hXe hn
  have v0 := Int.emod_nonneg n (show G.q - 1 ≠ 0 by omega)
  have v1 := Int.emod_lt_of_pos n (show 0 < G.q - 1 by omega)
  obtain ⟨e, he⟩ := Int.eq_ofNat_of_zero_le v0
  have HV : Hid ((n.tmod (G.q - 1) + (G.q - 1)) % (G.q - 1) = (e : Int)) := hid (by rw [tmod_emod, he])
  rw [he] at v1 HF
  clear v0 he
  obtain ⟨t1, t2⟩ := tmod_bd (n := n) (k := G.q - 1) (by omega)
  have s0 : 0 ≤ n.tmod (G.q - 1) + (G.q - 1) := by omega
  generalize hqq : G.q = q at *
  have Hqq := hid hqq
  clear hqq
  go_enter Try.func46, Try.ntmps46
  go_wp2_with (first
    | (go_at_call 23; (with_reducible refine (rIn_any P M vm x0 _).mono ?_); rintro e w1 ⟨rfl, k1⟩; rw [HX.out]; have bx1 := hbx.kept k1; have c0 := bx1.h0; have c1 := bx1.h1; have c2 := bx1.h2)
    | (go_at_call 25; (with_reducible refine (rOrder_any P M vm _).mono ?_); rintro e w2 ⟨rfl, k2⟩; rw [HO.out]))
  have hk02 := (hk0.tr k1).tr k2
  have hb2 := bx1.kept k2
  clear c0 c1 c2
  rw [HV.out]
  go_loopw [9, 10] (fun vo vi wr => ∃ i : Nat, i ≤ e ∧ vi = .int .i64 i ∧ vo = .int .i64 (rpG G x0 i) ∧ Kept w2 wr) (fun _ vi _ => e - (intOf vi).toNat)
  case atStart => exact ⟨0, by omega, rfl, rfl, Kept.rfl' _⟩
  case round =>
    obtain ⟨i, hi, rfl, rfl, hkw⟩ := hrel
    have hbw := hb2.kept hkw
    have c0 := hbw.h0
    have c1 := hbw.h1
    have c2 := hbw.h2
    obtain ⟨y, hy⟩ : ∃ y, y = rpG G x0 i := ⟨_, rfl⟩
    rw [← hy]
    have HY := hid hy
    clear hy
    by_cases hlt : i < e
    · have hs : Hid (mulG G y X = rpG G x0 (i + 1)) := hid (by rw [HY.out, HM.out])
      go_wp2_with (go_at_call 21; (with_reducible refine (rMul_field G t P M mod vm y X _ ho.out (hsv.kept ((k1.tr k2).tr hkw))).mono ?_); rintro e w3 ⟨rfl, k3⟩)
      go_roundw
      case rel => exact ⟨i + 1, by omega, by go_num, val_int hs.out, hkw.tr k3⟩
      case measure => simp [intOf]; omega
    · have ei : i = e := by omega
      have hfin : Hid (y = powG G x0 n) := hid (by rw [HY.out, ei]; exact HF.out)
      clear ei
      go_wp2_with (fail)
      go_ret2
      exact ⟨by rw [hfin.out]; rfl, hk02.tr hkw⟩
end Go.Proofs.Ytnmidgcmlkofjaa
