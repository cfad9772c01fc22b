/- The walks of the reference's small functions on fields: Order, prime, digits, Is, In, Digits, Value. Conditions: the ranges that each theorem names. -/
import Derived.Test.YtmakdclgpeochaaFg
import Derived.Test.YtmakdclgpeochaaSpA
import Derived.Deep.RegionHeld3
namespace Go.Proofs.Ytmakdclgpeochaa
open Go.RowKit Cw

theorem rOrder_any (P M : Int) (vm : Value) (w : World) :
    Calls Try.prog 49 #[.agg #[.int .i64 P, .int .i64 M, vm]] w fun e w' => e = .returned (.int .i64 (ordS P M)) ∧ Kept w w' := by
  have hk0 := kept_alloc w (.cells #[.int .i64 P, .int .i64 M, vm] 24)
  by_cases h1 : P < 2
  · have e := hid (ordS_no (p := P) (m := M) (by omega))
    go_enter Try.func49, Try.ntmps49
    go_wp2
    go_ret
    exact ⟨ret_int e.out.symm, hk0⟩
  by_cases h3 : M < 1
  · have e := hid (ordS_no (p := P) (m := M) (by omega))
    go_enter Try.func49, Try.ntmps49
    go_wp2
    go_ret
    exact ⟨ret_int e.out.symm, hk0⟩
  by_cases h4 : 8 < M
  · have e := hid (ordS_no (p := P) (m := M) (by omega))
    go_enter Try.func49, Try.ntmps49
    go_wp2
    go_ret
    exact ⟨ret_int e.out.symm, hk0⟩
  go_enter Try.func49, Try.ntmps49
  go_wp2
  go_loop [3, 4] (fun vq vi => ∃ (k : Nat) (Q : Int), (k : Int) ≤ M ∧ vi = .int .i64 k ∧ vq = .int .i64 Q ∧ Hid (Q = P ^ k) ∧ 1 ≤ Q ∧ Q ≤ 256) (fun _ vi => (M - intOf vi).toNat)
  case atStart => exact ⟨0, 1, by omega, rfl, rfl, hid (by simp), by omega, by omega⟩
  case round =>
    obtain ⟨k, Q, hk, rfl, rfl, hQ, b1, b2⟩ := hrel
    have d0 := Int.ediv_nonneg (show (0 : Int) ≤ 256 by omega) (show 0 ≤ P by omega)
    have d1 : 256 / P ≤ 256 := Int.ediv_le_self P (by omega)
    have hqt := quo_test (p := P) (Q := Q) (by omega)
    by_cases hlt : (k : Int) < M
    · by_cases hbig : 256 / P < Q
      · have e : Hid (ordS P M = 0) := hid (ordS_no fun g => by
          have h5 := pow_le (p := P) (by omega) (show k + 1 ≤ M.toNat by omega)
          rw [Int.pow_succ, ← hQ.out] at h5
          have := hqt.2 (by omega)
          omega)
        clear hqt
        go_wp2
        go_ret
        exact ⟨ret_int e.out.symm, hk0⟩
      · have c1 : Q * P ≤ 256 := hqt.1 (by omega)
        have c2 : 0 ≤ Q * P := Int.mul_nonneg (by omega) (by omega)
        have c3 : Q * 1 ≤ Q * P := Int.mul_le_mul_of_nonneg_left (by omega) (by omega)
        clear hqt
        go_wp2
        go_round
        case rel => exact ⟨k + 1, Q * P, by omega, by go_num, rfl, hid (by rw [Int.pow_succ, ← hQ.out]), by omega, by omega⟩
        case measure => simp [intOf]; omega
    · have hkm : M.toNat = k := by omega
      have hp2 : P ≤ 256 := by
        by_cases h0 : k = 0
        · omega
        · have h5 := pow_le (p := P) (by omega) (show 1 ≤ k by omega)
          rw [Int.pow_one, ← hQ.out] at h5
          omega
      have e : Hid (ordS P M = Q) := hid (by rw [ordS_yes (by omega) hp2 (by omega) (by omega) (by rw [hkm, ← hQ.out]; exact b2), hkm, hQ.out])
      clear hkm hqt
      go_wp2
      go_ret
      exact ⟨ret_int e.out.symm, hk0⟩

theorem prime_any (n : Int) (w : World) (h1 : 2 ≤ n) (h2 : n ≤ 256) (r : Bool) (hr : r = true ↔ Prm n) :
    Calls Try.prog 50 #[.int .i64 n] w fun e w' => e = .returned (.bool r) ∧ ∃ m, w' = w.drewN m := by
  have H := hid hr
  clear hr
  go_enter Try.func50, Try.ntmps50
  go_wp2
  go_loop [3] (fun i => ∃ d : Int, 2 ≤ d ∧ d ≤ n ∧ i = .int .i64 d ∧ Hid (∀ c : Int, 2 ≤ c → c < d → n % c ≠ 0)) (fun i => (n - intOf i).toNat)
  case atStart => exact ⟨2, by omega, by omega, rfl, hid (fun c h3 h4 => by omega)⟩
  case round =>
    obtain ⟨d, h3, h4, rfl, hc⟩ := hrel
    by_cases hlt : d < n
    · have h11 := Int.emod_nonneg n (show d ≠ 0 by omega)
      have h12 := Int.emod_lt_of_pos n (show 0 < d by omega)
      by_cases hz : n % d = 0
      · have hrf : r = false := by
          cases r
          · rfl
          · exact absurd hz ((H.out.1 rfl).2 d h3 hlt)
        subst hrf
        have h10 : (n % d == 0) = true := by simpa using hz
        clear hz
        go_wp2
        go_ret
        exact ⟨rfl, 0, rfl⟩
      · have h10 : (n % d == 0) = false := by simpa using hz
        have hc' : Hid (∀ c : Int, 2 ≤ c → c < d + 1 → n % c ≠ 0) := hid fun c g1 g2 => by
          by_cases e : c = d
          · rw [e]; exact hz
          · exact hc.out c g1 (by omega)
        clear hz
        go_wp2
        go_round
        case rel => exact ⟨d + 1, by omega, by omega, rfl, hc'⟩
        case measure => simp [intOf]; omega
    · have hrt : r = true := H.out.2 ⟨h1, fun c g1 g2 => hc.out c g1 (by omega)⟩
      subst hrt
      go_wp2
      go_ret
      exact ⟨rfl, 0, rfl⟩

theorem rdigits_any (x p : Int) (m : Nat) (w : World) (hx : 0 ≤ x) (hx2 : x ≤ 9223372036854775807) (hp : 1 ≤ p) (hp2 : p ≤ 256) (hm : m ≤ 8) :
    Calls Try.prog 59 #[.int .i64 x, .int .i64 p, .int .i64 m] w fun e w' => e = .returned (.slice (some ⟨w.heap.size, 0, none⟩) m m) ∧ Own w' w.heap.size (.slice (some ⟨w.heap.size, 0, none⟩) m m) (digL p x m) ∧ Kept w w' := by
  go_enter Try.func59, Try.ntmps59
  go_wp2_with (at_make; refine wpList_make_ints rfl _ _ rfl m _ _ rfl rfl rfl rfl (by omega) ?_; intro w1 ho hk)
  go_loopw [0, 8] (fun vx i wr => ∃ (k : Nat) (y : Int) (ys : List Int), k ≤ m ∧ i = .int .i64 k ∧ vx = .int .i64 y ∧ 0 ≤ y ∧ y ≤ x ∧ Hid (y = x / p ^ k) ∧ Hid (ys.length = m) ∧ Hid (∀ j, j < k → ys.getD j 0 = dgt p x j) ∧
      Own wr w.heap.size (.slice (some ⟨w.heap.size, 0, none⟩) m m) ys ∧ Kept w wr) (fun _ i _ => m - (intOf i).toNat)
  case atStart => exact ⟨0, x, _, by omega, rfl, rfl, hx, Int.le_refl _, hid (by simp), hid (by simp), hid (fun j hj => by omega), ho, hk⟩
  case round =>
    obtain ⟨k, y, ys, hkm, rfl, rfl, hy, hyx, hyk, hl, hd, hown, hkept⟩ := hrel
    clear ho hk
    by_cases hlt : k < m
    · have hcell := hown.cell (i := k) (by rw [hl.out]; exact hlt)
      have hfz := hown.frozen k
      have hown' := hown.set k (y % p)
      have g1 := Int.emod_nonneg y (show p ≠ 0 by omega)
      have g2 := Int.emod_lt_of_pos y (show 0 < p by omega)
      have g3 := Int.ediv_nonneg hy (show 0 ≤ p by omega)
      have g4 := Int.ediv_le_self p hy
      have hkept' := Below.setCell hkept (p := ⟨w.heap.size, k, none⟩) (Nat.le_refl _) (.int .i64 (y % p))
      clear hown hkept
      go_wp2
      go_roundw
      case rel => exact ⟨k + 1, y / p, ys.set k (y % p), by omega, by go_num, rfl, g3, by omega, hid (by rw [hyk.out, div_pow_succ (by omega)]), hid (by simp [hl.out]), hid (fun j hj => by
        by_cases e : j = k
        · subst e; simp [List.getD, hl.out, hlt, dgt, hyk.out]
        · have := hd.out j (by omega)
          simpa [List.getD, List.getElem?_set_ne (show k ≠ j by omega)] using this), hown', hkept'⟩
      case measure => simp [intOf]; omega
    · have e : Hid (digL p x m = ys) := hid (List.ext_getElem (by rw [length_digL, hl.out]) (fun j h1 h2 => by
        have := hd.out j (by rw [hl.out] at h2; omega)
        simp only [List.getD, List.getElem?_eq_getElem h2, Option.getD_some] at this
        rw [this]
        simp [digL]))
      go_wp2
      go_ret
      exact ⟨rfl, by rw [e.out]; exact hown, hkept⟩

theorem rIs_any (P M : Int) (vm : Value) (x : Int) (w : World) (r : Bool) (hr : r = true ↔ 0 ≤ x ∧ x < ordS P M) :
    Calls Try.prog 41 #[.agg #[.int .i64 P, .int .i64 M, vm], .int .i64 x] w fun e w' => e = .returned (.bool r) ∧ Kept w w' := by
  have hk0 := kept_alloc w (.cells #[.int .i64 P, .int .i64 M, vm] 24)
  have H := hid hr
  clear hr
  by_cases h0 : 0 ≤ x
  · have hrd : Hid (r = decide (x < ordS P M)) := hid (by rw [Bool.eq_iff_iff, H.out]; simp [h0])
    obtain ⟨q, hq⟩ : ∃ q, q = ordS P M := ⟨_, rfl⟩
    rw [← hq] at hrd
    have HQ := hid hq.symm
    clear hq
    go_enter Try.func41, Try.ntmps41
    go_wp2_with (go_at_call 49; refine (rOrder_any P M vm _).mono ?_; rintro e w1 ⟨rfl, hk1⟩; rw [HQ.out])
    go_ret
    exact ⟨ret_bool hrd.out.symm, hk0.tr hk1⟩
  · have hrf : r = false := by
      cases r
      · rfl
      · exact absurd (H.out.1 rfl).1 h0
    subst hrf
    go_enter Try.func41, Try.ntmps41
    go_wp2_with (fail)
    go_ret
    exact ⟨ret_bool (by simp), hk0⟩

theorem rIn_any (P M : Int) (vm : Value) (x : Int) (w : World) :
    Calls Try.prog 25 #[.agg #[.int .i64 P, .int .i64 M, vm], .int .i64 x] w fun e w' => e = .returned (.int .i64 (inn (ordS P M) x)) ∧ Kept w w' := by
  have hk0 := kept_alloc w (.cells #[.int .i64 P, .int .i64 M, vm] 24)
  by_cases h : 0 ≤ x ∧ x < ordS P M
  · rw [inn_yes h]
    have H : Hid (true = true ↔ 0 ≤ x ∧ x < ordS P M) := hid (by simp [h])
    clear h
    go_enter Try.func25, Try.ntmps25
    go_wp2_with (go_at_call 41; refine (rIs_any P M vm x _ true H.out).mono ?_; rintro e w1 ⟨rfl, hk1⟩)
    go_ret
    exact ⟨rfl, hk0.tr hk1⟩
  · rw [inn_no h]
    have H : Hid (false = true ↔ 0 ≤ x ∧ x < ordS P M) := hid (by simp; omega)
    clear h
    go_enter Try.func25, Try.ntmps25
    go_wp2_with (go_at_call 41; refine (rIs_any P M vm x _ false H.out).mono ?_; rintro e w1 ⟨rfl, hk1⟩)
    go_ret
    exact ⟨rfl, hk0.tr hk1⟩

set_option maxHeartbeats 800000 in
theorem rDigits_any (P : Int) (m : Nat) (vm : Value) (x : Int) (w : World) (hp : 2 ≤ P) (hp2 : P ≤ 256) (hm : m ≤ 8) (hq0 : 0 < ordS P m) (hq : ordS P m ≤ 256) :
    Calls Try.prog 39 #[.agg #[.int .i64 P, .int .i64 m, vm], .int .i64 x] w fun e w' => ∃ g, e = .returned (.slice (some ⟨g, 0, none⟩) m m) ∧ Own w' w.heap.size (.slice (some ⟨g, 0, none⟩) m m) (digL P (inn (ordS P m) x) m) ∧ Kept w w' := by
  have hk0 := kept_alloc w (.cells #[.int .i64 P, .int .i64 m, vm] 24)
  have hbx := boxF_new w P m vm 24
  have hX := inn_bd hq0 x
  obtain ⟨X, hXe⟩ : ∃ X, X = inn (ordS P m) x := ⟨_, rfl⟩
  rw [← hXe] at hX ⊢
  have HX := hid hXe.symm
  have hX1 := hX.1
  have hX2 : X ≤ 255 := by omega
  clear hXe hX hq0 hq
  go_enter Try.func39, Try.ntmps39
  go_wp2_with (fail)
  go_region_held3 (fun w' => w'.cell? ⟨w.heap.size, 0, none⟩ = some (.int .i64 P) ∧ w'.cell? ⟨w.heap.size, 1, none⟩ = some (.int .i64 m) ∧ w'.cell? ⟨w.heap.size, 2, none⟩ = some vm) (first | (simp [go_sem]; done) | (simp [*]; done))
    (first
      | (go_at_call 25; (with_reducible refine (rIn_any P m vm x _).mono ?_); rintro e w1 ⟨rfl, hk1⟩; rw [HX.out]; have bx1 := (hbx.drew).kept hk1; have a0 := bx1.h0; have a1 := bx1.h1; have a2 := bx1.h2)
      | (go_at_call 59; (with_reducible refine (rdigits_any X P m _ hX1 (by omega) (by omega) hp2 hm).mono ?_); rintro e w2 ⟨rfl, ho2, hk2⟩; have bx2 := bx1.kept hk2; have b0 := bx2.h0; have b1 := bx2.h1; have b2 := bx2.h2))
  have hk01 : Kept w w1 := (hk0.tr (kept_drew _)).tr hk1
  go_wp2_with (fail)
  go_ret
  exact ⟨_, rfl, ho2.mono hk01.size, hk01.tr hk2⟩

theorem rValue_any (P M : Int) (vm : Value) (v : Value) (l : List Int) (w : World) (hv : Sl w v l) (hp : 1 ≤ P) (hp2 : P ≤ 256) (hd : Digs P l) (hq : P ^ l.length ≤ 256) (hl : l.length ≤ 8) :
    Calls Try.prog 40 #[.agg #[.int .i64 P, .int .i64 M, vm], v] w fun e w' => e = .returned (.int .i64 (valL P l)) ∧ Kept w w' := by
  have hk0 := kept_alloc w (.cells #[.int .i64 P, .int .i64 M, vm] 24)
  have hbx := boxF_new w P M vm 24
  obtain ⟨a, cap, rfl, hcap, _, hc⟩ := hv
  go_enter Try.func40, Try.ntmps40
  go_wp2_with (fail)
  obtain ⟨w0, hw0⟩ : ∃ w0, w0 = w.alloc (.cells #[.int .i64 P, .int .i64 M, vm] 24) := ⟨_, rfl⟩
  rw [← hw0] at hbx hk0 ⊢
  clear hw0
  go_loopw [5, 6] (fun vx i wr => ∃ (k : Nat) (y : Int), k ≤ l.length ∧ i = .int .i64 ((k : Int) - 1) ∧ vx = .int .i64 y ∧ Hid (y = valF P l k) ∧ 0 ≤ y ∧ y < 256 ∧ ∃ n, wr = w0.drewN n) (fun _ i _ => (intOf i + 1).toNat)
  case atStart => exact ⟨l.length, 0, Nat.le_refl _, rfl, rfl, hid (valF_end _ _).symm, by omega, by omega, 0, rfl⟩
  case round =>
    obtain ⟨k, y, hk, rfl, rfl, hy, y0, y1, n, hw⟩ := hrel
    have hkw : Kept w wr := by rw [hw]; exact hk0.drewN n
    have hbw := hbx.kept (kept_drewN w0 n)
    rw [← hw] at hbw
    have HW := hid hw
    clear hw
    by_cases hlt : 0 < k
    · obtain ⟨j, rfl⟩ : ∃ j, k = j + 1 := ⟨k - 1, by omega⟩
      obtain ⟨b, off, rfl, hb, hcell⟩ := hc (by intro e; rw [e] at hk; simp at hk)
      have hcj := (hkw.cell' hb).trans (hcell j (by omega))
      have hmem : l.getD j 0 ∈ l := by simp only [List.getD, List.getElem?_eq_getElem (show j < l.length by omega), Option.getD_some]; exact List.getElem_mem _
      obtain ⟨d0, d1⟩ := hd _ hmem
      have hst := hid (valF_step P l (k := j) (by omega))
      have hbd := valF_bd hp hd j
      rw [hst.out, ← hy.out] at hbd
      obtain ⟨b1, b2⟩ := hbd
      have b3 : 0 ≤ y * P := Int.mul_nonneg y0 (by omega)
      have e : ((j + 1 : Nat) : Int) - 1 = (j : Int) := by omega
      rw [e]
      have c0 := hbw.h0
      clear e hcell hmem
      generalize l.getD j 0 = d at *
      have j0 : (0 : Int) ≤ (j : Int) := by omega
      have j1 : (j : Int) < (l.length : Int) := by omega
      go_wp2_with (fail)
      have w1' : IntKind.i64.wrap (y * P) = y * P := IntWalk.i64_in _ (by omega)
      have w2' : IntKind.i64.wrap (y * P + d) = y * P + d := IntWalk.i64_in _ (by clear w1'; omega)
      go_quiet (fail)
      clear w1' w2'
      go_wp2_with (fail)
      go_roundw
      case rel => exact ⟨j, y * P + d, by omega, rfl, rfl, hid (by rw [hst.out, ← hy.out]), by omega, by omega, _, by rw [HW.out, World.drewN_drewN]⟩
      case measure => simp [intOf]
    · obtain rfl : k = 0 := by omega
      go_wp2_with (fail)
      go_ret
      exact ⟨ret_int (by rw [hy.out, valF_zero]), hkw⟩
end Go.Proofs.Ytmakdclgpeochaa
