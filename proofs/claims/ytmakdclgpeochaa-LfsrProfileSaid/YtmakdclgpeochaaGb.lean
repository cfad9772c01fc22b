/- The walks of Neg, Sub, Mul, Inv, Div. Conditions: the field lies in memory with its tables. -/
import Derived.Test.YtmakdclgpeochaaGa
namespace Go.Proofs.Ytmakdclgpeochaa
open Go.RowKit Cw

set_option maxHeartbeats 800000 in
theorem neg_any (b : Nat) (G : GFd) (x0 : Int) (w : World) (hg : IsGF w b G) (ht : Tabs G) :
    Calls Try.prog 46 #[.pointer (some ⟨b, 0, none⟩), .int .i64 x0] w fun e w' => e = .returned (.int .i64 (negG G x0)) ∧ ∃ m, w' = w.drewN m := by
  obtain ⟨q1, q2, q3, q4, q5, q6, q7⟩ := ht.qb
  have hX := inn_bd (q := G.q) (by omega) x0
  have hst := negInv_start (P := G.P) (m := G.M.toNat) (X := inn G.q x0) (by rw [← q7]; exact hX)
  have hP := hg.hP
  have hq := hg.hq
  have hfin : Hid (negG G x0 = negD G.P G.M.toNat (inn G.q x0)) := hid rfl
  have Q7 := hid q7
  clear q7 hg ht
  obtain ⟨X, hXe⟩ : ∃ X, X = inn G.q x0 := ⟨_, rfl⟩
  rw [← hXe] at hX hst hfin
  have HX := hid hXe.symm
  clear hXe
  generalize G.P = P at *
  generalize G.M.toNat = m at *
  generalize G.q = q at *
  go_enter Try.func46, Try.ntmps46
  go_wp2_with (fail)
  refine (in_any _ _ _ _ hq).mono ?_
  rintro e w' ⟨rfl, m1, rfl⟩
  rw [HX.out]
  go_wp2_with (fail)
  go_loopw [1, 5, 6] (fun vx vs vp wr => ∃ x s p : Int, vx = .int .i64 x ∧ vs = .int .i64 s ∧ vp = .int .i64 p ∧ NegInv P m X x s p ∧ ∃ n, wr = w.drewN n)
    (fun vx _ _ _ => (intOf vx).toNat)
  case atStart => exact ⟨_, _, _, rfl, rfl, rfl, hst, _, rfl⟩
  case round =>
    obtain ⟨x, s, p, rfl, rfl, rfl, hinv, n, rfl⟩ := hrel
    obtain ⟨b1, b3, b4, b5⟩ := negInv_bd hinv
    by_cases hx : 0 < x
    · obtain ⟨c1, c2, c3, c4, c5, hinv'⟩ := negInv_step q3 q4 (by omega) hinv hx
      have HI := hid hinv'
      clear hinv hst hinv'
      have d1 := Int.ediv_nonneg b1 (show 0 ≤ P by omega)
      have k1 := Int.emod_nonneg x (show P ≠ 0 by omega)
      have k2 := Int.emod_lt_of_pos x (show 0 < P by omega)
      have r1 := Int.emod_nonneg (-(x % P)) (show P ≠ 0 by omega)
      have r2 := Int.emod_lt_of_pos (-(x % P)) (show 0 < P by omega)
      have hlt : x / P ≤ x := Int.ediv_le_self P b1
      have HM : Hid ((x / P).toNat < x.toNat) := hid (by have : x / P < x := div_lt_self q3 hx; omega)
      go_wp2_with (fail)
      have w1' : IntKind.i64.wrap (P - x % P) = P - x % P := IntWalk.i64_in _ (by omega)
      have w2' : IntKind.i64.wrap (-(x % P) % P * p) = -(x % P) % P * p := IntWalk.i64_in _ (by clear w1'; omega)
      have w3' : IntKind.i64.wrap (s + -(x % P) % P * p) = s + -(x % P) % P * p := IntWalk.i64_in _ (by clear w1' w2'; omega)
      go_quiet (fail)
      clear w1' w2' w3'
      go_wp2_with (fail)
      go_roundw
      case rel => exact ⟨_, _, _, rfl, rfl, rfl, HI.out, _, rfl⟩
      case measure => exact HM.out
    · have hx0 : x = 0 := by omega
      subst hx0
      have hend := hid (negInv_end hinv)
      go_wp2_with (fail)
      go_ret
      exact ⟨ret_int (by rw [hfin.out, hend.out]), _, rfl⟩

set_option maxHeartbeats 800000 in
theorem mul_any (b : Nat) (G : GFd) (x0 y0 : Int) (w : World) (hg : IsGF w b G) (ht : Tabs G) :
    Calls Try.prog 62 #[.pointer (some ⟨b, 0, none⟩), .int .i64 x0, .int .i64 y0] w fun e w' => e = .returned (.int .i64 (mulG G x0 y0)) ∧ ∃ m, w' = w.drewN m := by
  obtain ⟨q1, q2, q3, q4, q5, q6, q7⟩ := ht.qb
  have hX := inn_bd (q := G.q) (by omega) x0
  have hY := inn_bd (q := G.q) (by omega) y0
  have hq := hg.hq
  have hfin : Hid (mulG G x0 y0 = if inn G.q x0 = 0 ∨ inn G.q y0 = 0 then 0 else expG G (logG G (inn G.q x0) + logG G (inn G.q y0))) := hid rfl
  have Q7 := hid q7
  clear q7
  obtain ⟨X, hXe⟩ : ∃ X, X = inn G.q x0 := ⟨_, rfl⟩
  obtain ⟨Y, hYe⟩ : ∃ Y, Y = inn G.q y0 := ⟨_, rfl⟩
  rw [← hXe] at hX hfin
  rw [← hYe] at hY hfin
  have HX := hid hXe.symm
  have HY := hid hYe.symm
  clear hXe hYe
  by_cases hx : X = 0
  · subst hx
    go_enter Try.func62, Try.ntmps62
    go_wp2_with (fail)
    refine (in_any _ _ _ _ hq).mono ?_
    rintro e w' ⟨rfl, m1, rfl⟩
    rw [HX.out]
    go_wp2_with (fail)
    refine (in_any _ _ _ _ (by simpa using hq)).mono ?_
    rintro e w' ⟨rfl, m2, rfl⟩
    rw [HY.out]
    go_wp2_with (fail)
    go_ret
    exact ⟨ret_int (by rw [hfin.out]; simp), _, rfl⟩
  by_cases hy : Y = 0
  · subst hy
    have tx : (X == 0) = false := by simpa using hx
    clear hx
    go_enter Try.func62, Try.ntmps62
    go_wp2_with (fail)
    refine (in_any _ _ _ _ hq).mono ?_
    rintro e w' ⟨rfl, m1, rfl⟩
    rw [HX.out]
    go_wp2_with (fail)
    refine (in_any _ _ _ _ (by simpa using hq)).mono ?_
    rintro e w' ⟨rfl, m2, rfl⟩
    rw [HY.out]
    go_wp2_with (fail)
    go_ret
    exact ⟨ret_int (by rw [hfin.out]; simp), _, rfl⟩
  have tx : (X == 0) = false := by simpa using hx
  have ty : (Y == 0) = false := by simpa using hy
  obtain ⟨be, ce, e1, e2, e3⟩ := hg.hexp
  obtain ⟨bl, cl, l1, l2, l3⟩ := hg.hlog
  have lx := ht.log_bd (z := X) (by omega) hX.2
  have ly := ht.log_bd (z := Y) (by omega) hY.2
  have hR : Hid (mulG G x0 y0 = expG G (logG G X + logG G Y)) := hid (by rw [hfin.out, if_neg (by rintro (h | h); exact hx h; exact hy h)])
  have hll := ht.llen
  have hel := ht.elen
  have cX := l3 X.toNat (by omega)
  have cY := l3 Y.toNat (by omega)
  clear l3
  obtain ⟨Xn, rfl⟩ := Int.eq_ofNat_of_zero_le hX.1
  obtain ⟨Yn, rfl⟩ := Int.eq_ofNat_of_zero_le hY.1
  have hlx : Hid (logG G Xn = G.log.getD (Xn : Int).toNat 0) := hid rfl
  have hly : Hid (logG G Yn = G.log.getD (Yn : Int).toNat 0) := hid rfl
  obtain ⟨u, hu⟩ : ∃ u, u = G.log.getD (Xn : Int).toNat 0 := ⟨_, rfl⟩
  obtain ⟨v, hv⟩ : ∃ u, u = G.log.getD (Yn : Int).toNat 0 := ⟨_, rfl⟩
  rw [← hu] at cX lx hlx
  rw [← hv] at cY ly hly
  clear hu hv hx hy hfin
  have m0 := Int.emod_nonneg (u + v) (show G.q - 1 ≠ 0 by omega)
  have m1 := Int.emod_lt_of_pos (u + v) (show 0 < G.q - 1 by omega)
  have cE := e3 ((u + v) % (G.q - 1)).toNat (by omega)
  have hF : Hid (mulG G x0 y0 = G.exp.getD ((u + v) % (G.q - 1)).toNat 0) := hid (by rw [hR.out, hlx.out, hly.out]; rfl)
  have HLL := hid hll
  have HEL := hid hel
  have hxl : (Xn : Int) < (G.log.length : Int) := by omega
  have hyl : (Yn : Int) < (G.log.length : Int) := by omega
  have hml : (u + v) % (G.q - 1) < (G.exp.length : Int) := by omega
  have nx : (Xn : Int).toNat = Xn := by omega
  have ny : (Yn : Int).toNat = Yn := by omega
  rw [nx] at cX
  rw [ny] at cY
  clear nx ny hll hel e3 hR hlx hly
  obtain ⟨z, hz⟩ : ∃ t, t = G.exp.getD ((u + v) % (G.q - 1)).toNat 0 := ⟨_, rfl⟩
  rw [← hz] at cE hF
  clear hz
  go_enter Try.func62, Try.ntmps62
  go_wp2_with (fail)
  refine (in_any _ _ _ _ hq).mono ?_
  rintro e w' ⟨rfl, m1, rfl⟩
  rw [HX.out]
  go_wp2_with (fail)
  refine (in_any _ _ _ _ (by simpa using hq)).mono ?_
  rintro e w' ⟨rfl, m2, rfl⟩
  rw [HY.out]
  go_wp2_with (fail)
  have w1' : IntKind.i64.wrap (u + v) = u + v := IntWalk.i64_in _ (by omega)
  have w2' : IntKind.i64.wrap (G.q - 1) = G.q - 1 := IntWalk.i64_in _ (by clear w1'; omega)
  go_quiet (fail)
  clear w1' w2'
  go_wp2_with (fail)
  go_ret
  exact ⟨ret_int hF.out.symm, _, World.drewN_drewN _ _ _⟩
end Go.Proofs.Ytmakdclgpeochaa
