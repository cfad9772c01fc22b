/- The walks of MulOrder, Digits, FromDigits, Field. Conditions: the field lies in memory with its tables. -/
import Derived.Test.YtnmidgcmlkofjaaGc
import Derived.Test.YtnmidgcmlkofjaaMn
import Derived.Test.YtnmidgcmlkofjaaBc
import Derived.Deep.RegionHeld3
namespace Go.Proofs.Ytnmidgcmlkofjaa
open Go.RowKit Cw

theorem ret_tup {k : IntKind} {a b : Int} {v : Value} (h : a = b) : Ending.returned (.tuple #[.int k a, v]) = .returned (.tuple #[.int k b, v]) := by rw [h]

theorem mulOrder_zero (b : Nat) (G : GFd) (x0 : Int) (w : World) (hg : IsGF w b G) (hx : inn G.q x0 = 0) :
    Calls Try.prog 33 #[.pointer (some ⟨b, 0, none⟩), .int .i64 x0] w fun e w' => e = .returned (.tuple #[.int .i64 0, .int .i64 7]) ∧ ∃ m, w' = w.drewN m := by
  have hq := hg.hq
  have HX := hid hx
  clear hx
  go_enter Try.func33, Try.ntmps33
  go_wp2_with (go_at_call 58; refine (in_any _ _ _ _ hq).mono ?_; rintro e w' ⟨rfl, m1, rfl⟩; rw [HX.out])
  go_ret2
  exact ⟨rfl, _, rfl⟩

set_option maxHeartbeats 800000 in
theorem mulOrder_ok (b : Nat) (G : GFd) (x0 : Int) (w : World) (hg : IsGF w b G) (ht : Tabs G) (hx : inn G.q x0 ≠ 0) :
    Calls Try.prog 33 #[.pointer (some ⟨b, 0, none⟩), .int .i64 x0] w fun e w' => e = .returned (.tuple #[.int .i64 (ordG G x0 : Nat), .int .i64 0]) ∧ ∃ m, w' = w.drewN m := by
  obtain ⟨q1, q2, q3, q4, q5, q6, q7⟩ := ht.qb
  have hX := inn_bd (q := G.q) (by omega) x0
  have hq := hg.hq
  have hR : Hid (ordG G x0 = (G.q.toNat - 1) / Nat.gcd (G.q.toNat - 1) (logG G (inn G.q x0)).toNat) := hid rfl
  have Q7 := hid q7
  clear q7
  obtain ⟨X, hXe⟩ : ∃ X, X = inn G.q x0 := ⟨_, rfl⟩
  rw [← hXe] at hX hR hx
  have HX := hid hXe.symm
  clear hXe
  have tx : (X == 0) = false := by simpa using hx
  obtain ⟨bl, cl, l1, l2, l3⟩ := hg.hlog
  have lx := ht.log_bd (z := X) (by omega) hX.2
  have hll := ht.llen
  have cX := l3 X.toNat (by omega)
  clear l3
  obtain ⟨Xn, rfl⟩ := Int.eq_ofNat_of_zero_le hX.1
  have hlx : Hid (logG G Xn = G.log.getD (Xn : Int).toNat 0) := hid rfl
  obtain ⟨u, hu⟩ : ∃ u, u = G.log.getD (Xn : Int).toNat 0 := ⟨_, rfl⟩
  rw [← hu] at cX lx hlx
  clear hu hx
  obtain ⟨un, rfl⟩ := Int.eq_ofNat_of_zero_le lx.1
  have HLL := hid hll
  have hxl : (Xn : Int) < (G.log.length : Int) := by omega
  have nx : (Xn : Int).toNat = Xn := by omega
  rw [nx] at cX
  obtain ⟨N, hN⟩ : ∃ N : Nat, G.q = (N : Int) + 1 := ⟨G.q.toNat - 1, by omega⟩
  have hN1 : 1 ≤ N := by omega
  have HF : Hid (ordG G x0 = N / Nat.gcd N un) := hid (by
    rw [hR.out, hlx.out, show G.q.toNat - 1 = N by omega]; rfl)
  have hNq : Hid (G.q - 1 = (N : Int)) := hid (by omega)
  have u1 : (un : Int) < (N : Int) := by omega
  have n255 : (N : Int) ≤ 255 := by omega
  clear nx hll hR hlx hN
  generalize G.q = q at *
  go_enter Try.func33, Try.ntmps33
  go_wp2_with (go_at_call 58; refine (in_any _ _ _ _ hq).mono ?_; rintro e w' ⟨rfl, m1, rfl⟩; rw [HX.out])
  have w1' : IntKind.i64.wrap (q - 1) = q - 1 := IntWalk.i64_in _ (by omega)
  go_quiet (fail)
  clear w1'
  go_wp2_with (fail)
  go_loopw [6, 7] (fun va vb wr => ∃ a c : Nat, va = .int .i64 a ∧ vb = .int .i64 c ∧ 0 < a ∧ a ≤ 255 ∧ c ≤ 255 ∧ Hid (Nat.gcd a c = Nat.gcd N un) ∧ ∃ n, wr = w.drewN n) (fun _ vb _ => (intOf vb).toNat)
  case atStart => exact ⟨N, un, val_int hNq.out, rfl, by omega, by omega, by omega, hid rfl, _, World.drewN_drewN _ _ _⟩
  case round =>
    obtain ⟨a, c, rfl, rfl, a0, a1, c1, hgc, n, rfl⟩ := hrel
    by_cases hc : 0 < c
    · have r0 := Int.emod_nonneg (a : Int) (show (c : Int) ≠ 0 by omega)
      have r1 := Int.emod_lt_of_pos (a : Int) (show (0 : Int) < c by omega)
      have r2 := Nat.mod_lt a hc
      go_wp2_with (fail)
      go_quiet (fail)
      go_wp2_with (fail)
      go_roundw
      case rel => exact ⟨c, a % c, rfl, val_int (Int.natCast_emod a c).symm, by omega, by omega, by omega, hid (by rw [← hgc.out, Nat.gcd_comm a c, Nat.gcd_rec c a, Nat.gcd_comm]), _, World.drewN_drewN _ _ _⟩
      case measure => simp [intOf]; omega
    · have e0 : c = 0 := by omega
      subst e0
      have hfin : Hid ((q - 1) / (a : Int) = (ordG G x0 : Nat)) := hid (by
        have := hgc.out
        rw [Nat.gcd_zero_right] at this
        rw [HF.out, ← this, hNq.out, Int.natCast_ediv])
      have ta : ((a : Int) == 0) = false := by simp; omega
      go_wp2_with (fail)
      go_ret2
      exact ⟨ret_tup hfin.out, _, rfl⟩

theorem sl_len {w : World} {v : Value} {l : List Int} (h : Sl w v l) : ∃ a cap, v = .slice a l.length cap ∧ l.length ≤ cap ∧ cap ≤ maxLen := by
  obtain ⟨a, cap, h1, h2, ⟨h3, _⟩, _⟩ := h
  exact ⟨a, cap, h1, h2, h3⟩
theorem fromDigits_len (b : Nat) (G : GFd) (v : Value) (l : List Int) (w : World) (hg : IsGF w b G) (hv : Sl w v l) (hl : (l.length : Int) ≠ G.M) :
    Calls Try.prog 36 #[.pointer (some ⟨b, 0, none⟩), v] w fun e w' => e = .returned (.tuple #[.int .i64 0, .int .i64 3]) ∧ ∃ m, w' = w.drewN m := by
  obtain ⟨a, cap, rfl, hcap, hcm⟩ := sl_len hv
  unfold maxLen at hcm
  have hM := hg.hM
  have t0 : ((l.length : Int) != G.M) = true := by simpa using hl
  clear hl
  go_enter Try.func36, Try.ntmps36
  go_wp2_with (fail)
  go_ret2
  exact ⟨rfl, 0, rfl⟩
set_option maxHeartbeats 800000 in
theorem fromDigits_any (b : Nat) (G : GFd) (v : Value) (l : List Int) (w : World) (hg : IsGF w b G) (ht : Tabs G) (hv : Sl w v l) (hl : (l.length : Int) = G.M) (r : Value) (hr : (Digs G.P l ∧ r = .tuple #[.int .i64 (valL G.P l), .int .i64 0]) ∨ (¬ Digs G.P l ∧ r = .tuple #[.int .i64 0, .int .i64 2])) :
    Calls Try.prog 36 #[.pointer (some ⟨b, 0, none⟩), v] w fun e w' => e = .returned r ∧ ∃ m, w' = w.drewN m := by
  have hv' := hv
  obtain ⟨a, cap, rfl, hcap, ⟨hcm, _⟩, hc⟩ := hv
  unfold maxLen at hcm
  obtain ⟨q1, q2, q3, q4, q5, q6, q7⟩ := ht.qb
  have hM := hg.hM
  have hP := hg.hP
  have t0 : ((l.length : Int) != G.M) = false := by simpa using hl
  have l8 : l.length ≤ 8 := by omega
  have HQ : Hid (G.P ^ l.length ≤ 256) := hid (by rw [show l.length = G.M.toNat by omega, ← q7]; exact q2)
  have HR := hid hr
  clear hl q7 hr
  go_enter Try.func36, Try.ntmps36
  go_wp2_with (fail)
  go_loopw [18] (fun vi wr => ∃ k : Nat, k ≤ l.length ∧ vi = .int .i64 k ∧ Hid (∀ j, j < k → 0 ≤ l.getD j 0 ∧ l.getD j 0 < G.P) ∧ ∃ n, wr = w.drewN n) (fun vi _ => l.length - (intOf vi).toNat)
  case atStart => exact ⟨0, by omega, rfl, hid (fun j hj => by omega), 0, rfl⟩
  case round =>
    obtain ⟨k, hk, rfl, hd, n, rfl⟩ := hrel
    by_cases hlt : k < l.length
    · obtain ⟨b1, off, rfl, hb, hcell⟩ := hc (by intro e; rw [e] at hlt; simp at hlt)
      have hck := hcell k hlt
      obtain ⟨z, hz⟩ : ∃ z, z = l.getD k 0 := ⟨_, rfl⟩
      rw [← hz] at hck
      have HZ := hid hz
      have hmem : Hid (z ∈ l) := hid (by rw [hz]; simp only [List.getD, List.getElem?_eq_getElem hlt, Option.getD_some]; exact List.getElem_mem _)
      clear hz hcell
      by_cases hz0 : z < 0
      · have hno : r = .tuple #[.int .i64 0, .int .i64 2] := by
          rcases HR.out with ⟨h1, _⟩ | ⟨_, h2⟩
          · have := (h1 z hmem.out).1; omega
          · exact h2
        subst hno
        go_wp2_with (fail)
        go_ret2
        exact ⟨rfl, _, rfl⟩
      · by_cases hzP : G.P ≤ z
        · have hno : r = .tuple #[.int .i64 0, .int .i64 2] := by
            rcases HR.out with ⟨h1, _⟩ | ⟨_, h2⟩
            · have := (h1 z hmem.out).2; omega
            · exact h2
          subst hno
          have z0 : 0 ≤ z := by omega
          go_wp2_with (fail)
          go_ret2
          exact ⟨rfl, _, rfl⟩
        · have z0 : 0 ≤ z := by omega
          have z1 : z < G.P := by omega
          have hd' : Hid (∀ j, j < k + 1 → 0 ≤ l.getD j 0 ∧ l.getD j 0 < G.P) := hid (fun j hj => by
            by_cases e : j = k
            · rw [e, ← HZ.out]; exact ⟨z0, z1⟩
            · exact hd.out j (by omega))
          go_wp2_with (fail)
          go_roundw
          case rel => exact ⟨k + 1, by omega, by go_num, hd', _, rfl⟩
          case measure => simp [intOf]; omega
    · have hdg : Digs G.P l := fun x hx => by
        obtain ⟨j, hj, rfl⟩ := List.getElem_of_mem hx
        have := hd.out j (by omega)
        simpa only [List.getD, List.getElem?_eq_getElem hj, Option.getD_some] using this
      have hyes : r = .tuple #[.int .i64 (valL G.P l), .int .i64 0] := by
        rcases HR.out with ⟨_, h2⟩ | ⟨h1, _⟩
        · exact h2
        · exact absurd hdg h1
      subst hyes
      have HD := hid hdg
      clear hdg hd
      go_wp2_with (go_at_call 61; (with_reducible refine (valueOf_any _ l G.P _ (hv'.kept (kept_drewN _ _)) (by omega) q4 HD.out HQ.out l8).mono ?_); rintro e w1 ⟨rfl, n1, rfl⟩)
      go_ret2
      exact ⟨rfl, _, rfl⟩

theorem gf_cells {w : World} {b : Nat} {G : GFd} {m : Nat} (h : IsGF w b G) (hm : G.M = m) : w.cell? ⟨b, 0, none⟩ = some (.int .i64 G.P) ∧ w.cell? ⟨b, 1, none⟩ = some (.int .i64 m) ∧ w.cell? ⟨b, 3, none⟩ = some (.int .i64 G.q) := by
  refine ⟨h.hP, ?_, h.hq⟩
  rw [h.hM, hm]
set_option maxHeartbeats 800000 in
theorem gfDigits_any (b : Nat) (G : GFd) (x0 : Int) (w : World) (hg : IsGF w b G) (ht : Tabs G) (m : Nat) (hm : G.M = m) :
    Calls Try.prog 35 #[.pointer (some ⟨b, 0, none⟩), .int .i64 x0] w fun e w' => ∃ g, e = .returned (.slice (some ⟨g, 0, none⟩) m m) ∧ Own w' w.heap.size (.slice (some ⟨g, 0, none⟩) m m) (digL G.P (inn G.q x0) m) ∧ Kept w w' := by
  obtain ⟨q1, q2, q3, q4, q5, q6, q7⟩ := ht.qb
  have hX := inn_bd (q := G.q) (by omega) x0
  have hq := hg.hq
  have hM := hg.hM
  have hP := hg.hP
  have hb := hg.lt
  rw [hm] at hM q5 q6
  obtain ⟨X, hXe⟩ : ∃ X, X = inn G.q x0 := ⟨_, rfl⟩
  rw [← hXe] at hX
  have HX := hid hXe.symm
  have HX1 := hX.1
  have HX2 : X ≤ 255 := by omega
  rw [← hXe]
  have HM := hid hm
  clear hm q7 hX hXe
  go_enter Try.func35, Try.ntmps35
  go_wp2_with (fail)
  go_region_held3 (fun w' => w'.cell? ⟨b, 0, none⟩ = some (.int .i64 G.P) ∧ w'.cell? ⟨b, 1, none⟩ = some (.int .i64 m) ∧ w'.cell? ⟨b, 3, none⟩ = some (.int .i64 G.q)) (first | (simp [go_sem]; done) | (simp [*]; done))
    (first
      | (go_at_call 58; (with_reducible refine (in_any b G.q x0 _ (by first | assumption | (simp [*]; done))).mono ?_); rintro e w1 ⟨rfl, n1, rfl⟩; rw [HX.out])
      | (go_at_call 60; (with_reducible refine (digitsOf_any X G.P m _ HX1 (by omega) (by omega) q4 (by omega)).mono ?_); rintro e w2 ⟨rfl, ho2, hk2⟩; have kk2 := Kept.tr (a := w) (by first | exact kept_drew _ | exact kept_drewN _ _ | exact (kept_drew _).drewN _) hk2; obtain ⟨a0, a1, a2⟩ := gf_cells (hg.kept kk2) HM.out))
  go_wp2_with (fail)
  go_ret
  exact ⟨_, rfl, ho2.mono (by simp), kk2⟩
end Go.Proofs.Ytnmidgcmlkofjaa
