/- The walks of the reference's Inv of elements, and of Power and Mul of polynomials. Conditions: a field's description; lengths are bounded. -/
import Derived.Test.YtmnbcnbhnclkhaaQb
import Derived.Deep.RegionHeld3
namespace Go.Proofs.Ytmnbcnbhnclkhaa
open Go.RowKit Cw

theorem inv_is {G : GFd} (t : Tabs G) {x : Int} {k : Nat} (hk : (k : Int) < G.q) (h : mulG G x k = 1) : (k : Int) = invG G x := by
  have h1 := congrArg t.e h
  rw [t.e_mul, t.e_one] at h1
  have hx : inn G.q x ≠ 0 := fun e => by
    rw [t.e_nz.2 e, Rg.zero_mul] at h1
    exact Fd.one_ne h1.symm
  refine t.e_eq ⟨by omega, hk⟩ (t.inv_bd x) ?_
  rw [t.e_invG hx]
  exact Fd.inv_unique h1
theorem inv_no {G : GFd} (t : Tabs G) {x : Int} {k : Nat} (hk : G.q ≤ (k : Int)) (h : ∀ y : Nat, 1 ≤ y → y < k → mulG G x y ≠ 1) : invG G x = 0 := by
  by_cases hx : inn G.q x = 0
  · unfold invG; rw [if_pos hx]
  · exfalso
    have hb := t.inv_bd x
    have hz := t.inv_nz hx
    rw [inn_yes hb] at hz
    obtain ⟨y, hy⟩ := Int.eq_ofNat_of_zero_le hb.1
    refine h y (by omega) (by omega) ?_
    rw [← hy]
    refine t.e_eq (t.mul_bd _ _) ⟨by omega, by have := t.qb; omega⟩ ?_
    rw [t.e_mul, t.e_invG hx, t.e_one]
    exact Fd.mul_inv _ (fun e => hx (t.e_nz.1 e))
set_option maxRecDepth 100000 in
set_option maxHeartbeats 2000000 in
theorem rInv_p (G : GFd) (t : Tabs G) (P M : Int) (mod : List Int) (vm : Value) (x : Int) (w : World) (ho : Hid (Of G P M mod)) (hvm : Sl w vm mod) :
    Calls Try.prog 59 #[.agg #[.int .i64 P, .int .i64 M, vm], .int .i64 x] w fun e w' => e = .returned (.int .i64 (invG G x)) ∧ Kept w w' := by
  have hk0 := kept_alloc w (.cells #[.int .i64 P, .int .i64 M, vm] 24)
  have hbx := boxF_new w P M vm 24
  have smv := hvm.kept hk0
  have HZ1 : (w.alloc (.cells #[.int .i64 P, .int .i64 M, vm] 24)).heap.size = w.heap.size + 1 := by simp
  have HZ1 := hid HZ1
  obtain ⟨w1, hw1⟩ : ∃ w1, w1 = w.alloc (.cells #[.int .i64 P, .int .i64 M, vm] 24) := ⟨_, rfl⟩
  rw [← hw1] at hk0 hbx smv HZ1
  obtain ⟨q1, q2, q3, q4, q5, q6, q7⟩ := t.qb
  have HQ : Hid (ordS P M = G.q) := hid (by rw [← ho.out.1, ← ho.out.2.1, ← t.hq])
  clear q3 q4 q5 q6 q7
  go_enter Try.func59, Try.ntmps59
  go_wp2_with (fail)
  rw [← hw1]
  clear hw1
  go_loopw [5] (fun vi wr => ∃ k : Nat, 1 ≤ k ∧ (k : Int) ≤ G.q ∧ vi = .int .i64 k ∧ Hid (∀ y : Nat, 1 ≤ y → y < k → mulG G x y ≠ 1) ∧ Kept w1 wr) (fun vi _ => (G.q - intOf vi).toNat)
  case atStart => exact ⟨1, by omega, by omega, rfl, hid (fun y h1 h2 => by omega), Kept.rfl' _⟩
  case round =>
    obtain ⟨k, hk1, hkq, rfl, hno, hkw⟩ := hrel
    have hbw := hbx.kept hkw
    have c0 := hbw.h0
    have c1 := hbw.h1
    have c2 := hbw.h2
    have smw := smv.kept hkw
    by_cases hlt : (k : Int) < G.q
    · obtain ⟨m, hm⟩ : ∃ m, m = mulG G x k := ⟨_, rfl⟩
      have HM : Hid (mulG G x k = m) := hid hm.symm
      by_cases h1 : m = 1
      · subst h1
        have HI := hid (inv_is t hlt hm.symm)
        clear hm
        go_wp2_with (first
          | (go_at_call 71; (with_reducible refine (rOrder_any P M vm _).mono ?_); rintro e w3 ⟨rfl, k3⟩; rw [HQ.out]; have b3 := hbw.kept k3; have d0 := b3.h0; have d1 := b3.h1; have d2 := b3.h2)
          | (go_at_call 34; (with_reducible refine (rMul_field G t P M mod vm x k _ ho.out (smw.kept k3)).mono ?_); rintro e w4 ⟨rfl, k4⟩; rw [HM.out]))
        go_ret
        exact ⟨ret_int HI.out, hk0.tr (hkw.tr (k3.tr k4))⟩
      · have tm : (m == 1) = false := by simpa using h1
        have hno' : Hid (∀ y : Nat, 1 ≤ y → y < k + 1 → mulG G x y ≠ 1) := hid (fun y h2 h3 => by
          by_cases e : y = k
          · subst e; rw [← hm]; exact h1
          · exact hno.out y h2 (by omega))
        clear hm h1
        go_wp2_with (first
          | (go_at_call 71; (with_reducible refine (rOrder_any P M vm _).mono ?_); rintro e w3 ⟨rfl, k3⟩; rw [HQ.out]; have b3 := hbw.kept k3; have d0 := b3.h0; have d1 := b3.h1; have d2 := b3.h2)
          | (go_at_call 34; (with_reducible refine (rMul_field G t P M mod vm x k _ ho.out (smw.kept k3)).mono ?_); rintro e w4 ⟨rfl, k4⟩; rw [HM.out]))
        go_roundw
        case rel => exact ⟨k + 1, by omega, by omega, by go_num, hno', hkw.tr (k3.tr k4)⟩
        case measure => simp [intOf]; omega
    · have hge : G.q ≤ (k : Int) := by omega
      have HI := hid (inv_no t hge hno.out)
      go_wp2_with (first
          | (go_at_call 71; (with_reducible refine (rOrder_any P M vm _).mono ?_); rintro e w3 ⟨rfl, k3⟩; rw [HQ.out]; have b3 := hbw.kept k3; have d0 := b3.h0; have d1 := b3.h1; have d2 := b3.h2))
      go_ret
      exact ⟨ret_int HI.out.symm, hk0.tr (hkw.tr k3)⟩
theorem pl_power {G : GFd} (t : Tabs G) (n : Nat) : t.pl ((List.replicate (n + 1) 0).set n 1) = Pl.x n ∧ Cano G ((List.replicate (n + 1) 0).set n 1) := by
  have hl : n < (List.replicate (n + 1) (0 : Int)).length := by simp
  have hq := t.qb
  have hat : ∀ i, ((List.replicate (n + 1) (0 : Int)).set n 1).getD i 0 = if i = n then 1 else 0 := fun i => by
    by_cases e : i = n
    · subst e; rw [ldset_eq _ hl, if_pos rfl]
    · rw [ldset_ne _ (fun h => e h.symm), if_neg e]
      by_cases hi : i < n + 1
      · simp [hi]
      · rw [ld_out (by simp; omega)]
  refine ⟨Pl.ext (PS.ext fun i => ?_), fun x hx => ?_, fun _ => ?_⟩
  · rw [Pl.x_at, t.pl_at, hat]
    split
    · exact t.e_one
    · exact t.e_zero
  · obtain ⟨i, hi, rfl⟩ := List.getElem_of_mem hx
    have h := hat i
    rw [List.getD, List.getElem?_eq_getElem hi, Option.getD_some] at h
    rw [h]
    split <;> omega
  · rw [hat, List.length_set, List.length_replicate, if_pos (by omega)]; omega
theorem rPower_p (G : GFd) (t : Tabs G) (n : Nat) (w : World) (hn : n ≤ 100000) :
    Calls Try.prog 83 #[.int .i64 n] w (OutP G t (Pl.x n) w) := by
  have n0 : (0 : Int) ≤ (n : Int) := by omega
  have n1 : (n : Int) < (n : Int) + 1 := by omega
  go_enter Try.func83, Try.ntmps83
  go_wp2_with (at_make; refine wpList_make_ints rfl _ _ rfl (n + 1) _ _ rfl rfl (by first | rfl | omega) (by first | rfl | omega) (by omega) ?_; intro w2 ho2 hk2; have hc2 := ho2.cell (i := n) (by simp); have hf2 := ho2.frozen n; have hs2 := ho2.set n 1; have hb2 := Below.setCell hk2 (p := ⟨w.heap.size, n, none⟩) (Nat.le_refl _) (.int .i64 1))
  go_ret
  obtain ⟨e1, e2⟩ := pl_power t n
  exact ⟨_, _, rfl, hs2, hb2, e2, e1⟩
set_option maxRecDepth 100000 in
set_option maxHeartbeats 8000000 in
theorem rMul_p (G : GFd) (t : Tabs G) (P M : Int) (mod : List Int) (vm : Value) (vp vq : Value) (p q : List Int) (w : World) (ho : Hid (Of G P M mod)) (hvm : Sl w vm mod) (hvp : Sl w vp p) (hvq : Sl w vq q) (hlp : p.length ≤ 100000) (hlq : q.length ≤ 100000) :
    Calls Try.prog 23 #[.agg #[.int .i64 P, .int .i64 M, vm], vp, vq] w (OutP G t (t.pl p * t.pl q) w) := by
  have hk0 := kept_alloc w (.cells #[.int .i64 P, .int .i64 M, vm] 24)
  have hbx := boxF_new w P M vm 24
  have smv := hvm.kept hk0
  have svp := hvp.kept hk0
  have svq := hvq.kept hk0
  have HZ1 : (w.alloc (.cells #[.int .i64 P, .int .i64 M, vm] 24)).heap.size = w.heap.size + 1 := by simp
  have HZ1 := hid HZ1
  obtain ⟨w1, hw1⟩ : ∃ w1, w1 = w.alloc (.cells #[.int .i64 P, .int .i64 M, vm] 24) := ⟨_, rfl⟩
  rw [← hw1] at hk0 hbx smv HZ1 svp svq
  have q0 : 0 < G.q := by have := t.qb; omega
  have Q0 := hid q0
  clear q0
  go_enter Try.func23, Try.ntmps23
  go_wp2_with (fail)
  rw [← hw1]
  clear hw1
  refine (rCanon_p G t P M mod vm vp p _ ho svp (by omega)).mono ?_
  rintro e w2 ⟨v2, l1, rfl, o1, k2, c1, p1⟩
  have hn1 : l1.length ≤ 100000 := by have := t.can_ln' c1 p1; have := t.pl_ln_le p; omega
  obtain ⟨a1, cp1, rfl, s1, s1'⟩ := o1.sh
  have P1 := hid p1
  have b2 := hbx.kept k2
  have x0 := b2.h0
  have x1 := b2.h1
  have x2 := b2.h2
  clear p1
  go_wp2_with (fail)
  refine (rCanon_p G t P M mod vm vq q _ ho (svq.kept k2) (by omega)).mono ?_
  rintro e w3 ⟨v3, l2, rfl, o2, k3, c2, p2⟩
  have hn2 : l2.length ≤ 100000 := by have := t.can_ln' c2 p2; have := t.pl_ln_le q; omega
  obtain ⟨a2, cp2, rfl, s2, s2'⟩ := o2.sh
  have hk13 := k2.tr k3
  have hbx3 := hbx.kept hk13
  have HO : Hid (t.po l1 * t.po l2 = (t.pl p * t.pl q).a) := hid (by rw [← P1.out, ← p2]; rfl)
  have S1 := (o1.kept k3).sl
  have S2 := o2.sl
  obtain ⟨_, _, e1, _, _, hc1⟩ := S1
  cases e1
  obtain ⟨_, _, e2, _, _, hc2⟩ := S2
  cases e2
  obtain ⟨n, hn⟩ : ∃ n, n = l1.length + l2.length := ⟨_, rfl⟩
  have hnn : (l1.length : Int) + (l2.length : Int) = (n : Int) := by omega
  have n200 : n ≤ 200000 := by omega
  have HNN := hid hnn
  have HN := hid hn
  clear p2 hn hnn P1
  go_wp2_with (at_make; refine wpList_make_ints rfl _ _ rfl n _ _ rfl rfl HNN.out HNN.out (by omega) ?_; intro w4 ho4 hk4)
  clear x0 x1 x2
  go_loopw [8] (fun vi wr => ∃ (k : Nat) (us : List Int), k ≤ l1.length ∧ vi = .int .i64 k ∧ Hid (us.length = n) ∧ Hid (t.po us = Rg.sm k (fun i => PS.C (t.po l1 i) * PS.X i) * t.po l2) ∧
      Own wr w3.heap.size (.slice (some ⟨w3.heap.size, 0, none⟩) n n) us ∧ Kept w3 wr) (fun vi _ => l1.length - (intOf vi).toNat)
  case atStart => exact ⟨0, _, by omega, rfl, hid (by simp), hid (by rw [t.po_zeros, Rg.sm_zero, Rg.zero_mul]), ho4, hk4⟩
  case round =>
    obtain ⟨k, us, hkp, rfl, hul, hup, hown, hkw⟩ := hrel
    clear ho4 hk4
    by_cases hlt : k < l1.length
    · obtain ⟨g1, off1, rfl, hg1, hcell1⟩ := hc1 (by intro e; rw [e] at hlt; simp at hlt)
      have hcx0 := hcell1 k hlt
      obtain ⟨x, hx⟩ : ∃ z, z = l1.getD k 0 := ⟨_, rfl⟩
      rw [← hx] at hcx0
      have HX := hid hx
      have hki : (k : Int) < (l1.length : Int) := by omega
      have k0 : (0 : Int) ≤ (k : Int) := by omega
      clear hx hcell1 hc1
      go_wp2_with (fail)
      obtain ⟨wo, rfl⟩ : ∃ wo, wo = wr := ⟨_, rfl⟩
      go_loopw [9] (fun vi wr => ∃ (j : Nat) (us : List Int), j ≤ l2.length ∧ vi = .int .i64 j ∧ Hid (us.length = n) ∧ Hid (t.po us = Rg.sm k (fun i => PS.C (t.po l1 i) * PS.X i) * t.po l2 + PS.C (t.po l1 k) * PS.X k * Rg.sm j (fun i => PS.C (t.po l2 i) * PS.X i)) ∧
          Own wr w3.heap.size (.slice (some ⟨w3.heap.size, 0, none⟩) n n) us ∧ Kept w3 wr) (fun vi _ => l2.length - (intOf vi).toNat)
      case atStart => exact ⟨0, us, by omega, rfl, hul, hid (by rw [hup.out, Rg.sm_zero, Rg.mul_zero, Rg.add_zero]), hown, hkw⟩
      case round =>
        obtain ⟨j, us, hjp, rfl, hul, hup, hown, hkw⟩ := hrel
        have hbw := hbx3.kept hkw
        have c0 := hbw.h0
        have c1 := hbw.h1
        have c2 := hbw.h2
        have smw := smv.kept (hk13.tr hkw)
        by_cases hj : j < l2.length
        · obtain ⟨g2, off2, rfl, hg2, hcell2⟩ := hc2 (by intro e; rw [e] at hj; simp at hj)
          have hcy0 := hcell2 j hj
          obtain ⟨y, hy⟩ : ∃ z, z = l2.getD j 0 := ⟨_, rfl⟩
          rw [← hy] at hcy0
          have HY := hid hy
          have hcx := (Kept.cell' hkw hg1).trans hcx0
          have hcy := (Kept.cell' hkw hg2).trans hcy0
          have hg1' : g1 < wr.heap.size := Nat.lt_of_lt_of_le hg1 hkw.size
          have hg2' : g2 < wr.heap.size := Nat.lt_of_lt_of_le hg2 hkw.size
          have hnn := HN.out
          have hcu := hown.cell (i := k + j) (by rw [hul.out]; omega)
          obtain ⟨u, hu⟩ : ∃ z, z = us.getD (k + j) 0 := ⟨_, rfl⟩
          rw [← hu] at hcu
          have HU := hid hu
          have hfu := hown.frozen (k + j)
          have j0 : (0 : Int) ≤ (k : Int) + (j : Int) := by omega
          have j1 : (k : Int) + (j : Int) < (n : Int) := by omega
          have j2 : ((k : Int) + (j : Int)).toNat = k + j := by omega
          have j4 : (j : Int) < (l2.length : Int) := by omega
          have j5 : (0 : Int) ≤ (j : Int) := by omega
          have hbs : w.heap.size < w3.heap.size := by have := HZ1.out; have := hk13.size; omega
          have HUS : Hid (t.po (us.set (k + j) (addG G u (mulG G x y))) = Rg.sm k (fun i => PS.C (t.po l1 i) * PS.X i) * t.po l2 + PS.C (t.po l1 k) * PS.X k * Rg.sm (j + 1) (fun i => PS.C (t.po l2 i) * PS.X i)) := hid (po_step t (by rw [hul.out]; omega) HX.out HY.out hu hup.out)
          clear hy hu hnn hcell2 hc2 hcx0 hcy0
          go_wp2_with (fail)
          have hkc := Kept.rfl' wr
          have w1' : IntKind.i64.wrap ((k : Int) + (j : Int)) = (k : Int) + (j : Int) := IntWalk.i64_in _ (by omega)
          refine wp_region_noPanic ?_
          refine wp_region_held_drew (S := fun w' => w'.cell? ⟨w.heap.size, 0, none⟩ = some (.int .i64 P) ∧ w'.cell? ⟨w.heap.size, 1, none⟩ = some (.int .i64 M) ∧ w'.cell? ⟨w.heap.size, 2, none⟩ = some vm ∧ w'.cell? ⟨g1, off1 + k, none⟩ = some (.int .i64 x) ∧ w'.cell? ⟨g2, off2 + j, none⟩ = some (.int .i64 y)) (by kernel_rfl) ?_ (fun hHeld => ?_)
          · (first | (simp [go_sem]; done) | (refine ⟨?_, ?_, ?_, ?_, ?_⟩ <;> (rw [cell_setNe _ (by omega)]; assumption)) | (simp [*]; done))
          refine wpAnyH_take (i := 0) (oi := ?oz1) (v := ?vz1) ?hiz1 (by kernel_rfl) (by kernel_rfl) (by kernel_rfl) (fun _ _ _ h => h) (Or.inl ⟨?hwz1, ?hyz1⟩) (by assumption) ?restz1
          case hiz1 => (simp only [List.getElem?_toArray, List.getElem?_cons_zero]; rfl)
          case hwz1 => rfl
          case hyz1 => (intro w hSw; (try dsimp only at hSw); go_simp; with_reducible rfl)
          try simp only [Act.put, List.setIfInBounds_toArray, List.set_cons_zero, List.set_cons_succ]
          refine wpAnyH_take (i := 1) (oi := ?oz2) (v := ?vz2) ?hiz2 (by kernel_rfl) (by kernel_rfl) (by kernel_rfl) (fun _ _ _ h => h) (Or.inl ⟨?hwz2, ?hyz2⟩) (by assumption) ?restz2
          case hiz2 => (simp only [List.getElem?_toArray, List.getElem?_cons_succ, List.getElem?_cons_zero]; rfl)
          case hwz2 => rfl
          case hyz2 => (intro w hSw; (try dsimp only at hSw); go_simp; with_reducible rfl)
          try simp only [Act.put, List.setIfInBounds_toArray, List.set_cons_zero, List.set_cons_succ]
          refine wpAnyH_take (i := 2) (oi := ?oz3) (v := ?vz3) ?hiz3 (by kernel_rfl) (by kernel_rfl) (by kernel_rfl) (fun _ _ _ h => h) (Or.inl ⟨?hwz3, ?hyz3⟩) (by assumption) ?restz3
          case hiz3 => (simp only [List.getElem?_toArray, List.getElem?_cons_succ, List.getElem?_cons_zero]; rfl)
          case hwz3 => rfl
          case hyz3 => (intro w hSw; (try dsimp only at hSw); go_simp; with_reducible rfl)
          try simp only [Act.put, List.setIfInBounds_toArray, List.set_cons_zero, List.set_cons_succ]
          refine wpAnyH_take (i := 3) (oi := ?oz4) (v := ?vz4) ?hiz4 (by kernel_rfl) (by kernel_rfl) (by kernel_rfl) (fun _ _ _ h => h) (Or.inl ⟨?hwz4, ?hyz4⟩) (by assumption) ?restz4
          case hiz4 => (simp only [List.getElem?_toArray, List.getElem?_cons_succ, List.getElem?_cons_zero]; rfl)
          case hwz4 => rfl
          case hyz4 => (intro w hSw; (try dsimp only at hSw); go_simp; with_reducible rfl)
          try simp only [Act.put, List.setIfInBounds_toArray, List.set_cons_zero, List.set_cons_succ]
          refine wpAnyH_take (i := 4) (oi := ?oz5) (v := ?vz5) ?hiz5 (by kernel_rfl) (by kernel_rfl) (by kernel_rfl) (fun _ _ _ h => h) (Or.inl ⟨?hwz5, ?hyz5⟩) (by assumption) ?restz5
          case hiz5 => (simp only [List.getElem?_toArray, List.getElem?_cons_succ, List.getElem?_cons_zero]; rfl)
          case hwz5 => rfl
          case hyz5 => (intro w hSw; (try dsimp only at hSw); go_simp; with_reducible rfl)
          try simp only [Act.put, List.setIfInBounds_toArray, List.set_cons_zero, List.set_cons_succ]
          refine wpAnyH_take (i := 5) (oi := ?oz6) (v := ?vz6) ?hiz6 (by kernel_rfl) (by kernel_rfl) (by kernel_rfl) (fun _ _ _ h => h) (Or.inl ⟨?hwz6, ?hyz6⟩) (by assumption) ?restz6
          case hiz6 => (simp only [List.getElem?_toArray, List.getElem?_cons_succ, List.getElem?_cons_zero]; rfl)
          case hwz6 => rfl
          case hyz6 => (intro w hSw; (try dsimp only at hSw); go_simp; with_reducible rfl)
          try simp only [Act.put, List.setIfInBounds_toArray, List.set_cons_zero, List.set_cons_succ]
          refine wpAnyH_take (i := 6) (oi := ?oz7) (v := ?vz7) ?hiz7 (by kernel_rfl) (by kernel_rfl) (by kernel_rfl) (fun _ _ _ h => h) (Or.inl ⟨?hwz7, ?hyz7⟩) (by assumption) ?restz7
          case hiz7 => (simp only [List.getElem?_toArray, List.getElem?_cons_succ, List.getElem?_cons_zero]; rfl)
          case hwz7 => rfl
          case hyz7 => (intro w hSw; (try dsimp only at hSw); go_simp; with_reducible rfl)
          try simp only [Act.put, List.setIfInBounds_toArray, List.set_cons_zero, List.set_cons_succ]
          refine wpAnyH_take (i := 7) (oi := ?oz8) (v := ?vz8) ?hiz8 (by kernel_rfl) (by kernel_rfl) (by kernel_rfl) (fun _ _ _ h => h) (Or.inl ⟨?hwz8, ?hyz8⟩) (by assumption) ?restz8
          case hiz8 => (simp only [List.getElem?_toArray, List.getElem?_cons_succ, List.getElem?_cons_zero]; rfl)
          case hwz8 => rfl
          case hyz8 => (intro w hSw; (try dsimp only at hSw); go_simp; with_reducible rfl)
          try simp only [Act.put, List.setIfInBounds_toArray, List.set_cons_zero, List.set_cons_succ]
          refine wpAnyH_take (i := 8) (oi := ?oz9) (v := ?vz9) ?hiz9 (by kernel_rfl) (by kernel_rfl) (by kernel_rfl) (fun _ _ _ h => h) (Or.inl ⟨?hwz9, ?hyz9⟩) (by assumption) ?restz9
          case hiz9 => (simp only [List.getElem?_toArray, List.getElem?_cons_succ, List.getElem?_cons_zero]; rfl)
          case hwz9 => rfl
          case hyz9 => (intro w hSw; (try dsimp only at hSw); go_simp; with_reducible rfl)
          try simp only [Act.put, List.setIfInBounds_toArray, List.set_cons_zero, List.set_cons_succ]
          refine wpAnyH_take (i := 9) (oi := ?oz10) (v := ?vz10) ?hiz10 (by kernel_rfl) (by kernel_rfl) (by kernel_rfl) (fun _ _ _ h => h) (Or.inl ⟨?hwz10, ?hyz10⟩) (by assumption) ?restz10
          case hiz10 => (simp only [List.getElem?_toArray, List.getElem?_cons_succ, List.getElem?_cons_zero]; rfl)
          case hwz10 => rfl
          case hyz10 => (intro w hSw; (try dsimp only at hSw); go_simp; with_reducible rfl)
          try simp only [Act.put, List.setIfInBounds_toArray, List.set_cons_zero, List.set_cons_succ]
          refine wpAnyH_take (i := 11) (oi := ?oz11) (v := ?vz11) ?hiz11 (by kernel_rfl) (by kernel_rfl) (by kernel_rfl) (fun _ _ _ h => h) (Or.inl ⟨?hwz11, ?hyz11⟩) (by assumption) ?restz11
          case hiz11 => (simp only [List.getElem?_toArray, List.getElem?_cons_succ, List.getElem?_cons_zero]; rfl)
          case hwz11 => rfl
          case hyz11 => (intro w hSw; (try dsimp only at hSw); go_simp; with_reducible rfl)
          try simp only [Act.put, List.setIfInBounds_toArray, List.set_cons_zero, List.set_cons_succ]
          refine wpAnyH_take (i := 12) (oi := ?oz12) (v := ?vz12) ?hiz12 (by kernel_rfl) (by kernel_rfl) (by kernel_rfl) (fun _ _ _ h => h) (Or.inl ⟨?hwz12, ?hyz12⟩) (by assumption) ?restz12
          case hiz12 => (simp only [List.getElem?_toArray, List.getElem?_cons_succ, List.getElem?_cons_zero]; rfl)
          case hwz12 => rfl
          case hyz12 => (intro w hSw; (try dsimp only at hSw); go_simp; with_reducible rfl)
          try simp only [Act.put, List.setIfInBounds_toArray, List.set_cons_zero, List.set_cons_succ]
          refine wpAnyH_take (i := 13) (oi := ?oz13) (v := ?vz13) ?hiz13 (by kernel_rfl) (by kernel_rfl) (by kernel_rfl) (fun _ _ _ h => h) (Or.inl ⟨?hwz13, ?hyz13⟩) (by assumption) ?restz13
          case hiz13 => (simp only [List.getElem?_toArray, List.getElem?_cons_succ, List.getElem?_cons_zero]; rfl)
          case hwz13 => rfl
          case hyz13 => (intro w hSw; (try dsimp only at hSw); go_simp; with_reducible rfl)
          try simp only [Act.put, List.setIfInBounds_toArray, List.set_cons_zero, List.set_cons_succ]
          refine wpAnyH_take (i := 14) (oi := ?oz14) (v := ?vz14) ?hiz14 (by kernel_rfl) (by kernel_rfl) (by kernel_rfl) (fun _ _ _ h => h) (Or.inl ⟨?hwz14, ?hyz14⟩) (by assumption) ?restz14
          case hiz14 => (simp only [List.getElem?_toArray, List.getElem?_cons_succ, List.getElem?_cons_zero]; rfl)
          case hwz14 => rfl
          case hyz14 => (intro w hSw; (try dsimp only at hSw); go_simp; with_reducible rfl)
          try simp only [Act.put, List.setIfInBounds_toArray, List.set_cons_zero, List.set_cons_succ]
          refine wpAnyH_take (i := 15) (oi := ?oz15) (v := ?vz15) ?hiz15 (by kernel_rfl) (by kernel_rfl) (by kernel_rfl) (fun _ _ _ h => h) (Or.inl ⟨?hwz15, ?hyz15⟩) (by assumption) ?restz15
          case hiz15 => (simp only [List.getElem?_toArray, List.getElem?_cons_succ, List.getElem?_cons_zero]; rfl)
          case hwz15 => rfl
          case hyz15 => (intro w hSw; (try dsimp only at hSw); go_simp; with_reducible rfl)
          try simp only [Act.put, List.setIfInBounds_toArray, List.set_cons_zero, List.set_cons_succ]
          refine wpAnyH_take (i := 16) (oi := ?oz16) (v := ?vz16) ?hiz16 (by kernel_rfl) (by kernel_rfl) (by kernel_rfl) (fun _ _ _ h => h) (Or.inl ⟨?hwz16, ?hyz16⟩) (by assumption) ?restz16
          case hiz16 => (simp only [List.getElem?_toArray, List.getElem?_cons_succ, List.getElem?_cons_zero]; rfl)
          case hwz16 => rfl
          case hyz16 => (intro w hSw; (try dsimp only at hSw); go_simp; with_reducible rfl)
          try simp only [Act.put, List.setIfInBounds_toArray, List.set_cons_zero, List.set_cons_succ]
          refine wpAnyH_take (i := 17) (oi := ?oz17) (v := ?vz17) ?hiz17 (by kernel_rfl) (by kernel_rfl) (by kernel_rfl) (fun _ _ _ h => h) (Or.inl ⟨?hwz17, ?hyz17⟩) (by assumption) ?restz17
          case hiz17 => (simp only [List.getElem?_toArray, List.getElem?_cons_succ, List.getElem?_cons_zero]; rfl)
          case hwz17 => rfl
          case hyz17 => (intro w hSw; (try dsimp only at hSw); go_simp; with_reducible rfl)
          try simp only [Act.put, List.setIfInBounds_toArray, List.set_cons_zero, List.set_cons_succ]
          refine wpAnyH_take (i := 18) (oi := ?oz18) (v := ?vz18) ?hiz18 (by kernel_rfl) (by kernel_rfl) (by kernel_rfl) (fun _ _ _ h => h) (Or.inl ⟨?hwz18, ?hyz18⟩) (by assumption) ?restz18
          case hiz18 => (simp only [List.getElem?_toArray, List.getElem?_cons_succ, List.getElem?_cons_zero]; rfl)
          case hwz18 => rfl
          case hyz18 => (intro w hSw; (try dsimp only at hSw); go_simp; with_reducible rfl)
          try simp only [Act.put, List.setIfInBounds_toArray, List.set_cons_zero, List.set_cons_succ]
          refine wpAnyH_take (i := 19) (oi := ?oz19) (v := ?vz19) ?hiz19 (by kernel_rfl) (by kernel_rfl) (by kernel_rfl) (fun _ _ _ h => h) (Or.inl ⟨?hwz19, ?hyz19⟩) (by assumption) ?restz19
          case hiz19 => (simp only [List.getElem?_toArray, List.getElem?_cons_succ, List.getElem?_cons_zero]; rfl)
          case hwz19 => rfl
          case hyz19 => (intro w hSw; (try dsimp only at hSw); go_simp; with_reducible rfl)
          try simp only [Act.put, List.setIfInBounds_toArray, List.set_cons_zero, List.set_cons_succ]
          refine wpAnyH_ready (rs := [10, 20]) (by kernel_rfl) (by simp) ?_
          refine AllReadyH.cons (o := ?oAt20) ?hAt20 (fun K hK => ?bAt20) (AllReadyH.cons (o := ?oBt20) ?hBt20 (fun K hK => ?bBt20) AllReadyH.nil)
          case hAt20 => (simp only [List.getElem?_toArray, List.getElem?_cons_succ, List.getElem?_cons_zero]; rfl)
          case hBt20 => (simp only [List.getElem?_toArray, List.getElem?_cons_succ, List.getElem?_cons_zero]; rfl)
          case bAt20 =>
            go_simp
            refine hK.out _ _ ?_ (fun hHeld => ?_)
            · first | assumption | (first | (simp [go_sem]; done) | (refine ⟨?_, ?_, ?_, ?_, ?_⟩ <;> (rw [cell_setNe _ (by omega)]; assumption)) | (simp [*]; done))
            clear hK K
            try simp only [Act.put, List.setIfInBounds_toArray, List.set_cons_zero, List.set_cons_succ]
            refine wpAnyH_ready (rs := [20]) (by kernel_rfl) (by simp) ?_
            refine AllReadyH.cons (o := ?oy21) ?hy21 (fun K hK => ?by21) AllReadyH.nil
            case hy21 => (simp only [List.getElem?_toArray, List.getElem?_cons_succ, List.getElem?_cons_zero]; rfl)
            go_simp
            go_at_call 34; (with_reducible refine (rMul_field G t P M mod vm x y _ ho.out (smw.kept (by first | exact hkc | exact hkc.tr (kept_drew _) | exact hkc.tr (kept_drewN _ _)))).mono ?_); rintro e wx ⟨rfl, kx⟩; have hkn := Kept.tr (b := _) (by first | exact hkc | exact hkc.tr (kept_drew _) | exact hkc.tr (kept_drewN _ _)) kx; clear hkc kx; have hkc := hkn; clear hkn; have bxx := hbw.kept hkc; have d0 := bxx.h0; have d1 := bxx.h1; have d2 := bxx.h2; have ownx := hown.kept hkc; have d4 := ownx.cell (i := k + j) (by rw [hul.out]; omega); rw [← HU.out] at d4; have d5 := ownx.frozen (k + j); have d6 := (Kept.cell' hkc hg1').trans hcx; have d7 := (Kept.cell' hkc hg2').trans hcy
            try go_wp2_with (fail)
            refine hK.out _ _ ?_ (fun hHeld => ?_)
            · first | assumption | (first | (simp [go_sem]; done) | (refine ⟨?_, ?_, ?_, ?_, ?_⟩ <;> (rw [cell_setNe _ (by omega)]; assumption)) | (simp [*]; done))
            clear hK K
            try simp only [Act.put, List.setIfInBounds_toArray, List.set_cons_zero, List.set_cons_succ]
            refine wpAnyH_ready (rs := [21]) (by kernel_rfl) (by simp) ?_
            refine AllReadyH.cons (o := ?oy22) ?hy22 (fun K hK => ?by22) AllReadyH.nil
            case hy22 => (simp only [List.getElem?_toArray, List.getElem?_cons_succ, List.getElem?_cons_zero]; rfl)
            go_simp
            go_at_call 45; (with_reducible refine (rAdd_field G t P M mod vm u (mulG G x y) _ ho.out).mono ?_); rintro e wx ⟨rfl, kx⟩; have hkn := Kept.tr (b := _) (by first | exact hkc | exact hkc.tr (kept_drew _) | exact hkc.tr (kept_drewN _ _)) kx; clear hkc kx; have hkc := hkn; clear hkn; have bxx := hbw.kept hkc; have d0 := bxx.h0; have d1 := bxx.h1; have d2 := bxx.h2; have ownx := hown.kept hkc; have d4 := ownx.cell (i := k + j) (by rw [hul.out]; omega); rw [← HU.out] at d4; have d5 := ownx.frozen (k + j); have d6 := (Kept.cell' hkc hg1').trans hcx; have d7 := (Kept.cell' hkc hg2').trans hcy
            try go_wp2_with (fail)
            refine hK.out _ _ ?_ (fun hHeld => ?_)
            · first | assumption | (first | (simp [go_sem]; done) | (refine ⟨?_, ?_, ?_, ?_, ?_⟩ <;> (rw [cell_setNe _ (by omega)]; assumption)) | (simp [*]; done))
            clear hK K
            try simp only [Act.put, List.setIfInBounds_toArray, List.set_cons_zero, List.set_cons_succ]
            refine wpAnyH_take (i := 22) (oi := ?oz23) (v := ?vz23) ?hiz23 (by kernel_rfl) (by kernel_rfl) (by kernel_rfl) (fun _ _ _ h => h) (Or.inl ⟨?hwz23, ?hyz23⟩) (by assumption) ?restz23
            case hiz23 => (simp only [List.getElem?_toArray, List.getElem?_cons_succ, List.getElem?_cons_zero]; rfl)
            case hwz23 => rfl
            case hyz23 => (intro w hSw; (try dsimp only at hSw); go_simp; with_reducible rfl)
            try simp only [Act.put, List.setIfInBounds_toArray, List.set_cons_zero, List.set_cons_succ]
            refine wpAnyH_ready (rs := [23]) (by kernel_rfl) (by simp) ?_
            refine AllReadyH.cons (o := ?oy24) ?hy24 (fun K hK => ?by24) AllReadyH.nil
            case hy24 => (simp only [List.getElem?_toArray, List.getElem?_cons_succ, List.getElem?_cons_zero]; rfl)
            go_simp
            refine hK.out _ _ ?_ (fun hHeld => ?_)
            · first | assumption | (first | (simp [go_sem]; done) | (refine ⟨?_, ?_, ?_, ?_, ?_⟩ <;> (rw [cell_setNe _ (by omega)]; assumption)) | (simp [*]; done))
            clear hK K
            try simp only [Act.put, List.setIfInBounds_toArray, List.set_cons_zero, List.set_cons_succ]
            refine wpAnyH_done (by kernel_rfl) ?_ _
            refine NoPanic.normal ?_
            clear w1'
            go_wp2_with (fail)
            go_roundw
            case rel =>
              refine ⟨j + 1, us.set (k + j) (addG G u (mulG G x y)), by omega, by go_num, hid (by simp [hul.out]), HUS, ?_, ?_⟩
              · first | exact ownx.set _ _ | exact (ownx.set _ _).drew | exact (ownx.drewN _).set _ _ | exact (ownx.set _ _).drewN _
              · first | exact Below.setCell (hkw.tr hkc) (p := ⟨w3.heap.size, k + j, none⟩) (Nat.le_refl _) _ | exact (Below.setCell (hkw.tr hkc) (p := ⟨w3.heap.size, k + j, none⟩) (Nat.le_refl _) _).drew
            case measure => simp [intOf]; omega
          case bBt20 =>
            go_simp
            go_at_call 34; (with_reducible refine (rMul_field G t P M mod vm x y _ ho.out (smw.kept (by first | exact hkc | exact hkc.tr (kept_drew _) | exact hkc.tr (kept_drewN _ _)))).mono ?_); rintro e wx ⟨rfl, kx⟩; have hkn := Kept.tr (b := _) (by first | exact hkc | exact hkc.tr (kept_drew _) | exact hkc.tr (kept_drewN _ _)) kx; clear hkc kx; have hkc := hkn; clear hkn; have bxx := hbw.kept hkc; have d0 := bxx.h0; have d1 := bxx.h1; have d2 := bxx.h2; have ownx := hown.kept hkc; have d4 := ownx.cell (i := k + j) (by rw [hul.out]; omega); rw [← HU.out] at d4; have d5 := ownx.frozen (k + j); have d6 := (Kept.cell' hkc hg1').trans hcx; have d7 := (Kept.cell' hkc hg2').trans hcy
            try go_wp2_with (fail)
            refine hK.out _ _ ?_ (fun hHeld => ?_)
            · first | assumption | (first | (simp [go_sem]; done) | (refine ⟨?_, ?_, ?_, ?_, ?_⟩ <;> (rw [cell_setNe _ (by omega)]; assumption)) | (simp [*]; done))
            clear hK K
            try simp only [Act.put, List.setIfInBounds_toArray, List.set_cons_zero, List.set_cons_succ]
            refine wpAnyH_ready (rs := [10]) (by kernel_rfl) (by simp) ?_
            refine AllReadyH.cons (o := ?oy25) ?hy25 (fun K hK => ?by25) AllReadyH.nil
            case hy25 => (simp only [List.getElem?_toArray, List.getElem?_cons_succ, List.getElem?_cons_zero]; rfl)
            go_simp
            refine hK.out _ _ ?_ (fun hHeld => ?_)
            · first | assumption | (first | (simp [go_sem]; done) | (refine ⟨?_, ?_, ?_, ?_, ?_⟩ <;> (rw [cell_setNe _ (by omega)]; assumption)) | (simp [*]; done))
            clear hK K
            try simp only [Act.put, List.setIfInBounds_toArray, List.set_cons_zero, List.set_cons_succ]
            refine wpAnyH_ready (rs := [21]) (by kernel_rfl) (by simp) ?_
            refine AllReadyH.cons (o := ?oy26) ?hy26 (fun K hK => ?by26) AllReadyH.nil
            case hy26 => (simp only [List.getElem?_toArray, List.getElem?_cons_succ, List.getElem?_cons_zero]; rfl)
            go_simp
            go_at_call 45; (with_reducible refine (rAdd_field G t P M mod vm u (mulG G x y) _ ho.out).mono ?_); rintro e wx ⟨rfl, kx⟩; have hkn := Kept.tr (b := _) (by first | exact hkc | exact hkc.tr (kept_drew _) | exact hkc.tr (kept_drewN _ _)) kx; clear hkc kx; have hkc := hkn; clear hkn; have bxx := hbw.kept hkc; have d0 := bxx.h0; have d1 := bxx.h1; have d2 := bxx.h2; have ownx := hown.kept hkc; have d4 := ownx.cell (i := k + j) (by rw [hul.out]; omega); rw [← HU.out] at d4; have d5 := ownx.frozen (k + j); have d6 := (Kept.cell' hkc hg1').trans hcx; have d7 := (Kept.cell' hkc hg2').trans hcy
            try go_wp2_with (fail)
            refine hK.out _ _ ?_ (fun hHeld => ?_)
            · first | assumption | (first | (simp [go_sem]; done) | (refine ⟨?_, ?_, ?_, ?_, ?_⟩ <;> (rw [cell_setNe _ (by omega)]; assumption)) | (simp [*]; done))
            clear hK K
            try simp only [Act.put, List.setIfInBounds_toArray, List.set_cons_zero, List.set_cons_succ]
            refine wpAnyH_take (i := 22) (oi := ?oz27) (v := ?vz27) ?hiz27 (by kernel_rfl) (by kernel_rfl) (by kernel_rfl) (fun _ _ _ h => h) (Or.inl ⟨?hwz27, ?hyz27⟩) (by assumption) ?restz27
            case hiz27 => (simp only [List.getElem?_toArray, List.getElem?_cons_succ, List.getElem?_cons_zero]; rfl)
            case hwz27 => rfl
            case hyz27 => (intro w hSw; (try dsimp only at hSw); go_simp; with_reducible rfl)
            try simp only [Act.put, List.setIfInBounds_toArray, List.set_cons_zero, List.set_cons_succ]
            refine wpAnyH_ready (rs := [23]) (by kernel_rfl) (by simp) ?_
            refine AllReadyH.cons (o := ?oy28) ?hy28 (fun K hK => ?by28) AllReadyH.nil
            case hy28 => (simp only [List.getElem?_toArray, List.getElem?_cons_succ, List.getElem?_cons_zero]; rfl)
            go_simp
            refine hK.out _ _ ?_ (fun hHeld => ?_)
            · first | assumption | (first | (simp [go_sem]; done) | (refine ⟨?_, ?_, ?_, ?_, ?_⟩ <;> (rw [cell_setNe _ (by omega)]; assumption)) | (simp [*]; done))
            clear hK K
            try simp only [Act.put, List.setIfInBounds_toArray, List.set_cons_zero, List.set_cons_succ]
            refine wpAnyH_done (by kernel_rfl) ?_ _
            refine NoPanic.normal ?_
            clear w1'
            go_wp2_with (fail)
            go_roundw
            case rel =>
              refine ⟨j + 1, us.set (k + j) (addG G u (mulG G x y)), by omega, by go_num, hid (by simp [hul.out]), HUS, ?_, ?_⟩
              · first | exact ownx.set _ _ | exact (ownx.set _ _).drew | exact (ownx.drewN _).set _ _ | exact (ownx.set _ _).drewN _
              · first | exact Below.setCell (hkw.tr hkc) (p := ⟨w3.heap.size, k + j, none⟩) (Nat.le_refl _) _ | exact (Below.setCell (hkw.tr hkc) (p := ⟨w3.heap.size, k + j, none⟩) (Nat.le_refl _) _).drew
            case measure => simp [intOf]; omega
        · have ej : j = l2.length := by omega
          have HE : Hid (t.po us = Rg.sm (k + 1) (fun i => PS.C (t.po l1 i) * PS.X i) * t.po l2) := hid (by
            rw [hup.out, ej, ← PS.sum_X (t.po_dl l2), Rg.sm_succ, Rg.add_mul])
          clear ej
          go_wp2_with (fail)
          go_roundw
          case rel => exact ⟨k + 1, us, by omega, by go_num, hul, HE, hown, hkw⟩
          case measure => simp [intOf]; omega
    · have ek : k = l1.length := by omega
      have HE : Hid (t.pl us = t.pl p * t.pl q) := hid (Pl.ext (by rw [t.pl_a, hup.out, ek, ← PS.sum_X (t.po_dl l1), HO.out]))
      have hbw := hbx3.kept hkw
      have c0 := hbw.h0
      have c1 := hbw.h1
      have c2 := hbw.h2
      clear ek
      go_wp2_with (fail)
      refine (rCanon_p G t P M mod vm _ us _ ho hown.sl (by have := hul.out; omega)).mono ?_
      rintro e w5 ⟨v5, l5, rfl, o5, k5, c5, p5⟩
      have P5 := hid p5
      clear p5
      go_wp2_with (fail)
      go_ret
      have KZ := (hk0.tr hk13).tr hkw
      exact ⟨_, l5, rfl, o5.mono KZ.size, KZ.tr k5, c5, by rw [P5.out, HE.out]⟩
end Go.Proofs.Ytmnbcnbhnclkhaa
