/- The walks of Pow, Sum, Dot, Scale. Conditions: the field lies in memory with its tables. -/
import Derived.Test.YtnmidgcmlkofjaaGc
import Derived.Test.YtnmidgcmlkofjaaSpe
namespace Go.Proofs.Ytnmidgcmlkofjaa
open Go.RowKit Cw

theorem pow_zero (b : Nat) (G : GFd) (x0 : Int) (w : World) (hg : IsGF w b G) :
    Calls Try.prog 45 #[.pointer (some ⟨b, 0, none⟩), .int .i64 x0, .int .i64 0] w fun e w' => e = .returned (.tuple #[.int .i64 1, .int .i64 0]) ∧ ∃ m, w' = w.drewN m := by
  have hq := hg.hq
  go_enter Try.func45, Try.ntmps45
  go_wp2_with (go_at_call 58; refine (in_any _ _ _ _ hq).mono ?_; rintro e w' ⟨rfl, m1, rfl⟩)
  go_ret2
  exact ⟨rfl, _, rfl⟩
theorem pow_neg (b : Nat) (G : GFd) (x0 n : Int) (w : World) (hg : IsGF w b G) (hx : inn G.q x0 = 0) (hn : n < 0) :
    Calls Try.prog 45 #[.pointer (some ⟨b, 0, none⟩), .int .i64 x0, .int .i64 n] w fun e w' => e = .returned (.tuple #[.int .i64 0, .int .i64 7]) ∧ ∃ m, w' = w.drewN m := by
  have hq := hg.hq
  have HX := hid hx
  clear hx
  have t : (n == 0) = false := by simp; omega
  go_enter Try.func45, Try.ntmps45
  go_wp2_with (go_at_call 58; refine (in_any _ _ _ _ hq).mono ?_; rintro e w' ⟨rfl, m1, rfl⟩; rw [HX.out])
  go_ret2
  exact ⟨rfl, _, rfl⟩
theorem pow_nought (b : Nat) (G : GFd) (x0 n : Int) (w : World) (hg : IsGF w b G) (hx : inn G.q x0 = 0) (hn : 0 < n) :
    Calls Try.prog 45 #[.pointer (some ⟨b, 0, none⟩), .int .i64 x0, .int .i64 n] w fun e w' => e = .returned (.tuple #[.int .i64 0, .int .i64 0]) ∧ ∃ m, w' = w.drewN m := by
  have hq := hg.hq
  have HX := hid hx
  clear hx
  have t : (n == 0) = false := by simp; omega
  go_enter Try.func45, Try.ntmps45
  go_wp2_with (go_at_call 58; refine (in_any _ _ _ _ hq).mono ?_; rintro e w' ⟨rfl, m1, rfl⟩; rw [HX.out])
  go_ret2
  exact ⟨rfl, _, rfl⟩

set_option maxHeartbeats 800000 in
theorem pow_ok (b : Nat) (G : GFd) (x0 n : Int) (w : World) (hg : IsGF w b G) (ht : Tabs G) (hx : inn G.q x0 ≠ 0) (hn : n ≠ 0) (_hn1 : -9223372036854775808 ≤ n) (_hn2 : n ≤ 9223372036854775807) :
    Calls Try.prog 45 #[.pointer (some ⟨b, 0, none⟩), .int .i64 x0, .int .i64 n] w fun e w' => e = .returned (.tuple #[.int .i64 (powG G x0 n), .int .i64 0]) ∧ ∃ m, w' = w.drewN m := by
  obtain ⟨q1, q2, q3, q4, q5, q6, q7⟩ := ht.qb
  have hX := inn_bd (q := G.q) (by omega) x0
  have hq := hg.hq
  have hR : Hid (powG G x0 n = expG G (logG G (inn G.q x0) * (n % (G.q - 1)))) := hid rfl
  have Q7 := hid q7
  clear q7
  obtain ⟨X, hXe⟩ : ∃ X, X = inn G.q x0 := ⟨_, rfl⟩
  rw [← hXe] at hX hR hx
  have HX := hid hXe.symm
  clear hXe
  have tx : (X == 0) = false := by simpa using hx
  have tn : (n == 0) = false := by simpa using hn
  obtain ⟨be, ce, e1, e2, e3⟩ := hg.hexp
  obtain ⟨bl, cl, l1, l2, l3⟩ := hg.hlog
  have lx := ht.log_bd (z := X) (by omega) hX.2
  have hll := ht.llen
  have hel := ht.elen
  have cX := l3 X.toNat (by omega)
  clear l3
  obtain ⟨Xn, rfl⟩ := Int.eq_ofNat_of_zero_le hX.1
  have hlx : Hid (logG G Xn = G.log.getD (Xn : Int).toNat 0) := hid rfl
  obtain ⟨u, hu⟩ : ∃ u, u = G.log.getD (Xn : Int).toNat 0 := ⟨_, rfl⟩
  rw [← hu] at cX lx hlx
  clear hu hx
  have v0 := Int.emod_nonneg n (show G.q - 1 ≠ 0 by omega)
  have v1 := Int.emod_lt_of_pos n (show 0 < G.q - 1 by omega)
  obtain ⟨v, hv⟩ : ∃ v, v = n % (G.q - 1) := ⟨_, rfl⟩
  have HV : Hid ((n.tmod (G.q - 1) + (G.q - 1)) % (G.q - 1) = v) := hid (by rw [tmod_emod, hv])
  rw [← hv] at v0 v1 hR
  clear hv
  obtain ⟨t1, t2⟩ := tmod_bd (n := n) (k := G.q - 1) (by omega)
  obtain ⟨p1, p2⟩ := mul_bd (u := u) (v := v) lx.1 (by omega) v0 (by omega)
  have m0 := Int.emod_nonneg (u * v) (show G.q - 1 ≠ 0 by omega)
  have m1 := Int.emod_lt_of_pos (u * v) (show 0 < G.q - 1 by omega)
  have cE := e3 ((u * v) % (G.q - 1)).toNat (by omega)
  have hF : Hid (powG G x0 n = G.exp.getD ((u * v) % (G.q - 1)).toNat 0) := hid (by rw [hR.out, hlx.out]; rfl)
  have HLL := hid hll
  have HEL := hid hel
  have hxl : (Xn : Int) < (G.log.length : Int) := by omega
  have hml : (u * v) % (G.q - 1) < (G.exp.length : Int) := by omega
  have nx : (Xn : Int).toNat = Xn := by omega
  rw [nx] at cX
  clear nx hll hel e3 hR hlx
  obtain ⟨z, hz⟩ : ∃ t, t = G.exp.getD ((u * v) % (G.q - 1)).toNat 0 := ⟨_, rfl⟩
  rw [← hz] at cE hF
  clear hz hn
  obtain ⟨lx1, lx2⟩ := lx
  generalize G.q = q at *
  have HVV := HV.out
  clear HV
  have s0 : 0 ≤ n.tmod (q - 1) + (q - 1) := by omega
  go_enter Try.func45, Try.ntmps45
  go_wp2_with (go_at_call 58; refine (in_any _ _ _ _ hq).mono ?_; rintro e w' ⟨rfl, m1, rfl⟩; rw [HX.out])
  have w1' : IntKind.i64.wrap (u * v) = u * v := IntWalk.i64_in _ (by clear HVV; omega)
  go_quiet (fail)
  clear w1'
  go_wp2_with (fail)
  go_ret2
  exact ⟨by rw [hF.out]; rfl, _, World.drewN_drewN _ _ _⟩

theorem sum_any (b : Nat) (G : GFd) (v : Value) (l : List Int) (w : World) (hg : IsGF w b G) (ht : Tabs G) (hv : Sl w v l) :
    Calls Try.prog 53 #[.pointer (some ⟨b, 0, none⟩), v] w fun e w' => e = .returned (.int .i64 (sumG G l l.length)) ∧ ∃ m, w' = w.drewN m := by
  obtain ⟨a, cap, rfl, hcap, ⟨hcm, _⟩, hc⟩ := hv
  unfold maxLen at hcm
  go_enter Try.func53, Try.ntmps53
  go_wp2_with (fail)
  go_loopw [5, 10] (fun vs vi wr => ∃ k : Nat, k ≤ l.length ∧ vi = .int .i64 k ∧ vs = .int .i64 (sumG G l k) ∧ ∃ n, wr = w.drewN n) (fun _ vi _ => l.length - (intOf vi).toNat)
  case atStart => exact ⟨0, by omega, rfl, rfl, 0, rfl⟩
  case round =>
    obtain ⟨k, hk, rfl, rfl, n, rfl⟩ := hrel
    by_cases hlt : k < l.length
    · obtain ⟨bl, off, rfl, hb, hcell⟩ := hc (by intro e; rw [e] at hlt; simp at hlt)
      have hck := hcell k hlt
      have hst : Hid (sumG G l (k + 1) = addG G (sumG G l k) (l.getD k 0)) := hid rfl
      obtain ⟨z, hz⟩ : ∃ z, z = l.getD k 0 := ⟨_, rfl⟩
      obtain ⟨s, hs⟩ : ∃ s, s = sumG G l k := ⟨_, rfl⟩
      rw [← hz] at hck hst
      rw [← hs] at hst ⊢
      clear hcell hz hs
      go_wp2_with (go_at_call 22; refine (add_any b G s z _ (hg.drewN _) ht).mono ?_; rintro e w' ⟨rfl, m1, rfl⟩)
      go_roundw
      case rel => exact ⟨k + 1, by omega, by go_num, val_int hst.out.symm, _, rfl⟩
      case measure => simp [intOf]; omega
    · have e : k = l.length := by omega
      subst e
      go_wp2_with (fail)
      go_ret
      exact ⟨rfl, _, rfl⟩

set_option maxHeartbeats 800000 in
theorem dot_any (b : Nat) (G : GFd) (v1 v2 : Value) (l1 l2 : List Int) (w : World) (hg : IsGF w b G) (ht : Tabs G) (hv1 : Sl w v1 l1) (hv2 : Sl w v2 l2) :
    Calls Try.prog 54 #[.pointer (some ⟨b, 0, none⟩), v1, v2] w fun e w' => e = .returned (.int .i64 (dotG G l1 l2 (min l1.length l2.length))) ∧ ∃ m, w' = w.drewN m := by
  obtain ⟨a1, cap1, rfl, hcap1, ⟨hcm1, _⟩, hc1⟩ := hv1
  obtain ⟨a2, cap2, rfl, hcap2, ⟨hcm2, _⟩, hc2⟩ := hv2
  unfold maxLen at hcm1 hcm2
  go_enter Try.func54, Try.ntmps54
  go_wp2_with (fail)
  all_goals
    go_loopw [7, 14] (fun vs vi wr => ∃ k : Nat, k ≤ min l1.length l2.length ∧ vi = .int .i64 k ∧ vs = .int .i64 (dotG G l1 l2 k) ∧ ∃ n, wr = w.drewN n) (fun _ vi _ => min l1.length l2.length - (intOf vi).toNat)
    case atStart => exact ⟨0, by omega, rfl, rfl, 0, rfl⟩
    case round =>
      obtain ⟨k, hk, rfl, rfl, n, hw⟩ := hrel
      have hgw : IsGF wr b G := by rw [hw]; exact hg.drewN n
      have hcw : ∀ a, wr.cell? a = w.cell? a := fun a => by rw [hw]; rfl
      have HW := hid hw
      clear hw
      by_cases hlt : k < min l1.length l2.length
      · obtain ⟨b1, off1, rfl, hb1, hcell1⟩ := hc1 (by intro e; rw [e] at hlt; simp at hlt)
        obtain ⟨b2, off2, rfl, hb2, hcell2⟩ := hc2 (by intro e; rw [e] at hlt; simp at hlt)
        have hlt1 : k < l1.length := by omega
        have hlt2 : k < l2.length := by omega
        have hck1 := (hcw _).trans (hcell1 k hlt1)
        have hck2 := (hcw _).trans (hcell2 k hlt2)
        have hst : Hid (dotG G l1 l2 (k + 1) = addG G (dotG G l1 l2 k) (mulG G (l1.getD k 0) (l2.getD k 0))) := hid rfl
        obtain ⟨z1, hz1⟩ : ∃ z, z = l1.getD k 0 := ⟨_, rfl⟩
        obtain ⟨z2, hz2⟩ : ∃ z, z = l2.getD k 0 := ⟨_, rfl⟩
        obtain ⟨s, hs⟩ : ∃ s, s = dotG G l1 l2 k := ⟨_, rfl⟩
        rw [← hz1] at hck1 hst
        rw [← hz2] at hck2 hst
        rw [← hs] at hst ⊢
        clear hcell1 hcell2 hcw hz1 hz2 hs
        have i0 : (0 : Int) ≤ (k : Int) := by omega
        have i1 : (k : Int) < (l1.length : Int) := by omega
        have i2 : (k : Int) < (l2.length : Int) := by omega
        have HLT := hid hlt
        clear hlt
        go_wp2_with (fail)
        go_quiet (first | (go_at_call 20; refine Calls.quiet_of (mul_any b G z1 z2 _ (hgw.drewN _) ht)) | (go_at_call 22; refine Calls.quiet_of (add_any b G s (mulG G z1 z2) _ (hgw.drewN _) ht)))
        go_wp2_with (fail)
        go_roundw
        case rel => exact ⟨k + 1, by have := HLT.out; omega, by go_num, val_int hst.out.symm, _, by rw [HW.out, World.drewN_drewN]⟩
        case measure => have := HLT.out; simp [intOf]; omega
      · clear hcw
        have e : Hid (k = min l1.length l2.length) := hid (by omega)
        go_wp2_with (fail)
        go_ret
        exact ⟨ret_int (by rw [e.out]), _, HW.out⟩

theorem scale_any (b : Nat) (G : GFd) (a : Int) (v : Value) (l : List Int) (w : World) (hg : IsGF w b G) (ht : Tabs G) (hv : Sl w v l) (hl : l.length ≤ 1000000) :
    Calls Try.prog 52 #[.pointer (some ⟨b, 0, none⟩), .int .i64 a, v] w fun e w' => e = .returned (.slice (some ⟨w.heap.size, 0, none⟩) l.length l.length) ∧ Own w' w.heap.size (.slice (some ⟨w.heap.size, 0, none⟩) l.length l.length) (l.map (mulG G a)) ∧ Kept w w' := by
  obtain ⟨av, cap, rfl, hcap, ⟨hcm, _⟩, hc⟩ := hv
  go_enter Try.func52, Try.ntmps52
  go_wp2_with (at_make; refine wpList_make_ints rfl _ _ rfl l.length _ _ rfl rfl rfl rfl (by omega) ?_; intro w1 ho hk)
  go_loopw [15] (fun vi wr => ∃ (k : Nat) (ys : List Int), k ≤ l.length ∧ vi = .int .i64 k ∧ Hid (ys.length = l.length) ∧ Hid (∀ j, j < k → ys.getD j 0 = mulG G a (l.getD j 0)) ∧
      Own wr w.heap.size (.slice (some ⟨w.heap.size, 0, none⟩) l.length l.length) ys ∧ Below w.heap.size w wr) (fun vi _ => l.length - (intOf vi).toNat)
  case atStart => exact ⟨0, _, by omega, rfl, hid (by simp), hid (fun j hj => by omega), ho, hk⟩
  case round =>
    obtain ⟨k, ys, hk', rfl, hlen, hys, hown, hbel⟩ := hrel
    clear ho hk
    by_cases hlt : k < l.length
    · obtain ⟨bl, off, rfl, hb, hcell⟩ := hc (by intro e; rw [e] at hlt; simp at hlt)
      have hck := (Below.cell hbel (p := ⟨bl, off + k, none⟩) hb).trans (hcell k hlt)
      obtain ⟨z, hz⟩ : ∃ z, z = l.getD k 0 := ⟨_, rfl⟩
      rw [← hz] at hck
      have HZ := hid hz
      clear hz hcell
      have hgw := hg.kept hbel
      have hcz := hown.cell (i := k) (by rw [hlen.out]; exact hlt)
      have hfz := hown.frozen k
      go_wp2_with (go_at_call 20; refine (mul_any b G a z _ hgw ht).mono ?_; rintro e w' ⟨rfl, m1, rfl⟩)
      have hset := (hown.drewN m1).set k (mulG G a z)
      have hbs := Below.setCell (below_drewN hbel m1) (p := ⟨w.heap.size, k, none⟩) (Nat.le_refl _) (.int .i64 (mulG G a z))
      go_roundw
      case rel => exact ⟨k + 1, ys.set k (mulG G a z), by omega, by go_num, hid (by simp [hlen.out]), hid (fun j hj => by
        by_cases e : j = k
        · subst e; simp [List.getD, hlen.out, hlt, HZ.out]
        · have := hys.out j (by omega)
          simpa [List.getD, List.getElem?_set_ne (show k ≠ j by omega)] using this), hset, hbs⟩
      case measure => simp [intOf]; omega
    · have e : Hid (l.map (mulG G a) = ys) := hid (List.ext_getElem (by rw [List.length_map, hlen.out]) (fun j h1 h2 => by
        have := hys.out j (by rw [hlen.out] at h2; omega)
        simp only [List.length_map] at h1
        simp only [List.getD, List.getElem?_eq_getElem h2, List.getElem?_eq_getElem h1, Option.getD_some] at this
        rw [this]
        simp))
      go_wp2_with (fail)
      go_ret
      exact ⟨rfl, by rw [e.out]; exact hown, hbel⟩
end Go.Proofs.Ytnmidgcmlkofjaa
