/- The walks of the reference's Degree, At, Add, Scale and Sub. Conditions: a field's description; lengths are bounded. -/
import Derived.Test.YtmnbcnbhnclkhaaQa
import Derived.Test.YtmnbcnbhnclkhaaKf
import Derived.Test.YtmnbcnbhnclkhaaKw
import Derived.WalkLawsBesides
namespace Go.Proofs.Ytmnbcnbhnclkhaa
open Go.RowKit Cw

theorem rCanon_p (G : GFd) (t : Tabs G) (P M : Int) (mod : List Int) (vm : Value) (v : Value) (p : List Int) (w : World) (ho : Hid (Of G P M mod)) (hv : Sl w v p) (hl : p.length ≤ 1000000) :
    Calls Try.prog 20 #[.agg #[.int .i64 P, .int .i64 M, vm], v] w (OutP G t (t.pl p) w) :=
  (rCanon_any G t P M mod vm v p w ho hv hl).mono fun _ _ h => h.p rfl
theorem rDegree_p (G : GFd) (t : Tabs G) (P M : Int) (mod : List Int) (vm : Value) (v : Value) (p : List Int) (w : World) (ho : Hid (Of G P M mod)) (hv : Sl w v p) (hl : p.length ≤ 1000000) :
    Calls Try.prog 37 #[.agg #[.int .i64 P, .int .i64 M, vm], v] w fun e w' => e = .returned (.int .i64 (((t.pl p).ln : Int) - 1)) ∧ Kept w w' := by
  have hk0 := kept_alloc w (.cells #[.int .i64 P, .int .i64 M, vm] 24)
  go_enter Try.func37, Try.ntmps37
  go_wp2_with (fail)
  refine (rCanon_p G t P M mod vm v p _ ho (hv.kept hk0) hl).mono ?_
  rintro e w1 ⟨v1, l1, rfl, o1, k1, c1, p1⟩
  obtain ⟨a1, cp1, rfl, h1, h2⟩ := o1.sh
  have P1 := hid p1
  have hl1 : l1.length ≤ 1000000 := by have := t.can_ln' c1 p1; have := t.pl_ln_le p; omega
  clear p1
  go_wp2_with (fail)
  go_ret
  exact ⟨ret_int (by rw [t.can_ln' c1 P1.out]), hk0.tr k1⟩
set_option maxRecDepth 100000 in
set_option maxHeartbeats 1000000 in
theorem rAt_p (G : GFd) (t : Tabs G) (P M : Int) (mod : List Int) (vm : Value) (v : Value) (p : List Int) (i : Nat) (w : World) (ho : Hid (Of G P M mod)) (hv : Sl w v p) (hi : i ≤ 1000000) :
    Calls Try.prog 50 #[.agg #[.int .i64 P, .int .i64 M, vm], v, .int .i64 i] w fun e w' => e = .returned (.int .i64 (inn G.q (p.getD i 0))) ∧ Kept w w' := by
  have hk0 := kept_alloc w (.cells #[.int .i64 P, .int .i64 M, vm] 24)
  have hbx := boxF_new w P M vm 24
  obtain ⟨a, cap, rfl, hcap, ⟨hcm, _⟩, hc⟩ := hv.kept hk0
  unfold maxLen at hcm
  have q0 : 0 < G.q := by have := t.qb; omega
  have i0 : (0 : Int) ≤ (i : Int) := by omega
  have ti : decide ((i : Int) < 0) = false := by simp
  by_cases hlt : i < p.length
  · obtain ⟨bp, off, rfl, hbp, hcell⟩ := hc (by intro e; rw [e] at hlt; simp at hlt)
    have hck := hcell i hlt
    obtain ⟨w1, hw1⟩ : ∃ w1, w1 = w.alloc (.cells #[.int .i64 P, .int .i64 M, vm] 24) := ⟨_, rfl⟩
    rw [← hw1] at hk0 hbx hck hbp
    obtain ⟨z, hz⟩ : ∃ z, z = p.getD i 0 := ⟨_, rfl⟩
    rw [← hz] at hck ⊢
    have HQ : Hid (inn (ordS P M) z = inn G.q z) := hid (by rw [← ho.out.1, ← ho.out.2.1, ← t.hq])
    have hki : (i : Int) < (p.length : Int) := by omega
    have hbw := hbx
    have c0 := hbx.h0
    have c1 := hbx.h1
    have c2 := hbx.h2
    clear hz hcell hc q0
    go_enter Try.func50, Try.ntmps50
    go_wp2_with (fail)
    rw [← hw1]
    clear hw1
    have hkc := Kept.rfl' w1
    go_region_held3 (fun w' => w'.cell? ⟨w.heap.size, 0, none⟩ = some (.int .i64 P) ∧ w'.cell? ⟨w.heap.size, 1, none⟩ = some (.int .i64 M) ∧ w'.cell? ⟨w.heap.size, 2, none⟩ = some vm ∧ w'.cell? ⟨bp, off + i, none⟩ = some (.int .i64 z)) (first | (simp [go_sem]; done) | (simp [*]; done))
      (first
        | (go_at_call 26; (with_reducible refine (rIn_any P M vm z _).mono ?_); rintro e wx ⟨rfl, kx⟩; rw [HQ.out]; have hkn := Kept.tr (b := _) (by first | exact hkc | exact hkc.tr (kept_drew _) | exact hkc.tr (kept_drewN _ _)) kx; clear hkc kx; have hkc := hkn; clear hkn; have bxx := hbw.kept hkc; have d0 := bxx.h0; have d1 := bxx.h1; have d2 := bxx.h2; have d3 := (Kept.cell' hkc hbp).trans hck))
    go_wp2_with (fail)
    go_ret
    exact ⟨rfl, hk0.tr hkc⟩
  · have hge : (p.length : Int) ≤ (i : Int) := by omega
    have e : Hid (inn G.q (p.getD i 0) = 0) := hid (by rw [ld_out (by omega)]; exact inn_yes ⟨by omega, q0⟩)
    rw [e.out]
    clear hlt hc q0
    go_enter Try.func50, Try.ntmps50
    go_wp2_with (fail)
    go_ret
    exact ⟨rfl, hk0⟩
set_option maxRecDepth 100000 in
set_option maxHeartbeats 4000000 in
theorem rAdd_p (G : GFd) (t : Tabs G) (P M : Int) (mod : List Int) (vm : Value) (vp vq : Value) (p q : List Int) (w : World) (ho : Hid (Of G P M mod)) (hvm : Sl w vm mod) (hvp : Sl w vp p) (hvq : Sl w vq q) (hlp : p.length ≤ 100000) (hlq : q.length ≤ 100000) :
    Calls Try.prog 96 #[.agg #[.int .i64 P, .int .i64 M, vm], vp, vq] w (OutP G t (t.pl p + t.pl q) w) := by
  have hk0 := kept_alloc w (.cells #[.int .i64 P, .int .i64 M, vm] 24)
  have hbx := boxF_new w P M vm 24
  have smv := hvm.kept hk0
  have svp := hvp.kept hk0
  have svq := hvq.kept hk0
  have HZ1 : (w.alloc (.cells #[.int .i64 P, .int .i64 M, vm] 24)).heap.size = w.heap.size + 1 := by simp
  have HZ1 := hid HZ1
  obtain ⟨w1, hw1⟩ : ∃ w1, w1 = w.alloc (.cells #[.int .i64 P, .int .i64 M, vm] 24) := ⟨_, rfl⟩
  rw [← hw1] at hk0 hbx smv HZ1 svp svq
  obtain ⟨ap, capp, rfl, hcapp, ⟨hcmp, _⟩, _⟩ := hvp
  obtain ⟨aq, capq, rfl, hcapq, ⟨hcmq, _⟩, _⟩ := hvq
  unfold maxLen at hcmp hcmq
  obtain ⟨n, hn⟩ : ∃ n, n = max p.length q.length := ⟨_, rfl⟩
  have hnp : p.length ≤ n := by omega
  have hnq : q.length ≤ n := by omega
  have hn1 : n ≤ 100000 := by omega
  have HN := hid hn
  clear hn
  go_enter Try.func96, Try.ntmps96
  go_wp2_with (first
    | (at_make; refine wpList_make_ints rfl _ _ rfl n _ _ rfl rfl (by have := HN.out; omega) (by have := HN.out; omega) (by omega) ?_; intro w2 ho2 hk2; rw [← hw1] at hk2; simp only [World.size_alloc] at ho2))
  all_goals
    clear hw1
    go_loopw [8] (fun vi wr => ∃ (k : Nat) (us : List Int), k ≤ n ∧ vi = .int .i64 k ∧ Hid (us.length = n) ∧ Hid (∀ i, us.getD i 0 = if i < k then addG G (inn G.q (p.getD i 0)) (inn G.q (q.getD i 0)) else 0) ∧
      Own wr (w.heap.size + 1) (.slice (some ⟨w.heap.size + 1, 0, none⟩) n n) us ∧ Kept w1 wr) (fun vi _ => n - (intOf vi).toNat)
    case atStart => exact ⟨0, _, by omega, rfl, hid (by simp), hid (fun i => by
      rw [if_neg (by omega)]
      by_cases hi : i < n
      · simp [hi]
      · rw [ld_out (by simp; omega)]), ho2, hk2⟩
    case round =>
      obtain ⟨k, us, hkp, rfl, hul, hus, hown, hkw⟩ := hrel
      clear ho2 hk2
      have hbw := hbx.kept hkw
      have c0 := hbw.h0
      have c1 := hbw.h1
      have c2 := hbw.h2
      by_cases hlt : k < n
      · obtain ⟨x, hx⟩ : ∃ x, x = inn G.q (p.getD k 0) := ⟨_, rfl⟩
        obtain ⟨y, hy⟩ : ∃ y, y = inn G.q (q.getD k 0) := ⟨_, rfl⟩
        have HX : Hid (inn G.q (p.getD k 0) = x) := hid hx.symm
        have HY : Hid (inn G.q (q.getD k 0) = y) := hid hy.symm
        have hcu := hown.cell (i := k) (by rw [hul.out]; omega)
        have hfu := hown.frozen k
        have hki : (k : Int) < (n : Int) := by omega
        have k0 : (0 : Int) ≤ (k : Int) := by omega
        have hus' : Hid (∀ i, (us.set k (addG G x y)).getD i 0 = if i < k + 1 then addG G (inn G.q (p.getD i 0)) (inn G.q (q.getD i 0)) else 0) := hid (fun i => by
          by_cases e : i = k
          · subst e
            rw [ldset_eq _ (by rw [hul.out]; omega), if_pos (by omega), hx, hy]
          · rw [ldset_ne _ (fun h => e h.symm), hus.out i]
            by_cases h2 : i < k
            · rw [if_pos h2, if_pos (by omega)]
            · rw [if_neg h2, if_neg (by omega)])
        clear hx hy
        go_wp2_with (fail)
        have hkc := Kept.rfl' wr
        go_region_held3 (fun w' => w'.cell? ⟨w.heap.size, 0, none⟩ = some (.int .i64 P) ∧ w'.cell? ⟨w.heap.size, 1, none⟩ = some (.int .i64 M) ∧ w'.cell? ⟨w.heap.size, 2, none⟩ = some vm) (first | (simp [go_sem]; done) | (refine ⟨?_, ?_, ?_⟩ <;> (rw [cell_setNe _ (by omega)]; assumption)) | (simp [*]; done))
          (first
            | (go_at_call 50; (with_reducible refine (rAt_p G t P M mod vm _ p k _ ho ((svp.kept hkw).kept (by first | exact hkc | exact hkc.tr (kept_drew _) | exact hkc.tr (kept_drewN _ _))) (by omega)).mono ?_); rintro e wx ⟨rfl, kx⟩; rw [HX.out]; have hkn := Kept.tr (b := _) (by first | exact hkc | exact hkc.tr (kept_drew _) | exact hkc.tr (kept_drewN _ _)) kx; clear hkc kx; have hkc := hkn; clear hkn; have bxx := hbw.kept hkc; have d0 := bxx.h0; have d1 := bxx.h1; have d2 := bxx.h2; have ownx := hown.kept hkc; have d4 := ownx.cell (i := k) (by rw [hul.out]; omega); have d5 := ownx.frozen k)
            | (go_at_call 50; (with_reducible refine (rAt_p G t P M mod vm _ q k _ ho ((svq.kept hkw).kept (by first | exact hkc | exact hkc.tr (kept_drew _) | exact hkc.tr (kept_drewN _ _))) (by omega)).mono ?_); rintro e wx ⟨rfl, kx⟩; rw [HY.out]; have hkn := Kept.tr (b := _) (by first | exact hkc | exact hkc.tr (kept_drew _) | exact hkc.tr (kept_drewN _ _)) kx; clear hkc kx; have hkc := hkn; clear hkn; have bxx := hbw.kept hkc; have d0 := bxx.h0; have d1 := bxx.h1; have d2 := bxx.h2; have ownx := hown.kept hkc; have d4 := ownx.cell (i := k) (by rw [hul.out]; omega); have d5 := ownx.frozen k)
            | (go_at_call 45; (with_reducible refine (rAdd_field G t P M mod vm x y _ ho.out).mono ?_); rintro e wx ⟨rfl, kx⟩; have hkn := Kept.tr (b := _) (by first | exact hkc | exact hkc.tr (kept_drew _) | exact hkc.tr (kept_drewN _ _)) kx; clear hkc kx; have hkc := hkn; clear hkn; have bxx := hbw.kept hkc; have d0 := bxx.h0; have d1 := bxx.h1; have d2 := bxx.h2; have ownx := hown.kept hkc; have d4 := ownx.cell (i := k) (by rw [hul.out]; omega); have d5 := ownx.frozen k))
        all_goals
          go_wp2_with (fail)
          go_roundw
          case rel =>
            refine ⟨k + 1, us.set k (addG G x y), by omega, by go_num, hid (by simp [hul.out]), hus', ?_, ?_⟩
            · first | exact ownx.set _ _ | exact (ownx.set _ _).drew | exact (ownx.drewN _).set _ _ | exact (ownx.set _ _).drewN _
            · first | exact Below.setCell (hkw.tr hkc) (p := ⟨w.heap.size + 1, k, none⟩) (Nat.le_of_eq HZ1.out) _ | exact (Below.setCell (hkw.tr hkc) (p := ⟨w.heap.size + 1, k, none⟩) (Nat.le_of_eq HZ1.out) _).drew
          case measure => simp [intOf]; omega
      · have ek : k = n := by omega
        have hfin : Hid (t.pl us = t.pl p + t.pl q) := hid (Pl.ext (PS.ext fun i => by
          show t.e (us.getD i 0) = t.e (p.getD i 0) + t.e (q.getD i 0)
          rw [hus.out i]
          by_cases h2 : i < k
          · rw [if_pos h2, t.e_add, t.e_inn, t.e_inn]
          · rw [if_neg h2, ld_out (l := p) (by omega), ld_out (l := q) (by omega), t.e_zero, Rg.add_zero]))
        clear ek hus
        go_wp2_with (fail)
        refine (rCanon_p G t P M mod vm _ us _ ho hown.sl (by have := hul.out; omega)).mono ?_
        rintro e w5 ⟨v5, l5, rfl, o5, k5, c5, p5⟩
        have P5 := hid p5
        clear p5
        go_wp2_with (fail)
        go_ret
        exact ⟨_, l5, rfl, o5.mono (hk0.tr hkw).size, (hk0.tr hkw).tr k5, c5, by rw [P5.out, hfin.out]⟩
set_option maxRecDepth 100000 in
set_option maxHeartbeats 4000000 in
theorem rScale_p (G : GFd) (t : Tabs G) (P M : Int) (mod : List Int) (vm : Value) (a : Int) (vp : Value) (p : List Int) (w : World) (ho : Hid (Of G P M mod)) (hvm : Sl w vm mod) (hvp : Sl w vp p) (hlp : p.length ≤ 100000) :
    Calls Try.prog 82 #[.agg #[.int .i64 P, .int .i64 M, vm], .int .i64 a, vp] w (OutP G t (Pl.c (t.e a) * t.pl p) w) := by
  have hk0 := kept_alloc w (.cells #[.int .i64 P, .int .i64 M, vm] 24)
  have hbx := boxF_new w P M vm 24
  have smv := hvm.kept hk0
  have svp := hvp.kept hk0
  have HZ1 : (w.alloc (.cells #[.int .i64 P, .int .i64 M, vm] 24)).heap.size = w.heap.size + 1 := by simp
  have HZ1 := hid HZ1
  obtain ⟨w1, hw1⟩ : ∃ w1, w1 = w.alloc (.cells #[.int .i64 P, .int .i64 M, vm] 24) := ⟨_, rfl⟩
  rw [← hw1] at hk0 hbx smv HZ1 svp
  obtain ⟨ap, capp, rfl, hcapp, ⟨hcmp, _⟩, hcp⟩ := svp
  unfold maxLen at hcmp
  go_enter Try.func82, Try.ntmps82
  go_wp2_with (first
    | (at_make; refine wpList_make_ints rfl _ _ rfl p.length _ _ rfl rfl rfl rfl (by omega) ?_; intro w2 ho2 hk2; rw [← hw1] at hk2; simp only [World.size_alloc] at ho2))
  clear hw1
  go_loopw [8] (fun vi wr => ∃ (k : Nat) (us : List Int), k ≤ p.length ∧ vi = .int .i64 k ∧ Hid (us.length = p.length) ∧ Hid (∀ i, us.getD i 0 = if i < k then mulG G a (p.getD i 0) else 0) ∧
      Own wr (w.heap.size + 1) (.slice (some ⟨w.heap.size + 1, 0, none⟩) p.length p.length) us ∧ Kept w1 wr) (fun vi _ => p.length - (intOf vi).toNat)
  case atStart => exact ⟨0, _, by omega, rfl, hid (by simp), hid (fun i => by
    rw [if_neg (by omega)]
    by_cases hi : i < p.length
    · simp [hi]
    · rw [ld_out (by simp; omega)]), ho2, hk2⟩
  case round =>
    obtain ⟨k, us, hkp, rfl, hul, hus, hown, hkw⟩ := hrel
    clear ho2 hk2
    have hbw := hbx.kept hkw
    have c0 := hbw.h0
    have c1 := hbw.h1
    have c2 := hbw.h2
    by_cases hlt : k < p.length
    · obtain ⟨bp, off, rfl, hbp, hcell⟩ := hcp (by intro e; rw [e] at hlt; simp at hlt)
      have hck := (Kept.cell' hkw hbp).trans (hcell k hlt)
      have hbp' : bp < wr.heap.size := Nat.lt_of_lt_of_le hbp hkw.size
      have hbn : bp < w.heap.size + 1 := Nat.lt_of_lt_of_eq hbp HZ1.out
      obtain ⟨z, hz⟩ : ∃ z, z = p.getD k 0 := ⟨_, rfl⟩
      rw [← hz] at hck
      have HZ := hid hz
      have hcu := hown.cell (i := k) (by rw [hul.out]; omega)
      have hfu := hown.frozen k
      have hki : (k : Int) < (p.length : Int) := by omega
      have k0 : (0 : Int) ≤ (k : Int) := by omega
      have hus' : Hid (∀ i, (us.set k (mulG G a z)).getD i 0 = if i < k + 1 then mulG G a (p.getD i 0) else 0) := hid (fun i => by
        by_cases e : i = k
        · subst e
          rw [ldset_eq _ (by rw [hul.out]; omega), if_pos (by omega), hz]
        · rw [ldset_ne _ (fun h => e h.symm), hus.out i]
          by_cases h2 : i < k
          · rw [if_pos h2, if_pos (by omega)]
          · rw [if_neg h2, if_neg (by omega)])
      clear hz hcell hcp
      go_wp2_with (fail)
      have hkc := Kept.rfl' wr
      go_region_held3 (fun w' => w'.cell? ⟨w.heap.size, 0, none⟩ = some (.int .i64 P) ∧ w'.cell? ⟨w.heap.size, 1, none⟩ = some (.int .i64 M) ∧ w'.cell? ⟨w.heap.size, 2, none⟩ = some vm ∧ w'.cell? ⟨bp, off + k, none⟩ = some (.int .i64 z)) (first | (simp [go_sem]; done) | (refine ⟨?_, ?_, ?_, ?_⟩ <;> (rw [cell_setNe _ (by omega)]; assumption)) | (simp [*]; done))
        (first
          | (go_at_call 34; (with_reducible refine (rMul_field G t P M mod vm a z _ ho.out ((smv.kept hkw).kept (by first | exact hkc | exact hkc.tr (kept_drew _) | exact hkc.tr (kept_drewN _ _)))).mono ?_); rintro e wx ⟨rfl, kx⟩; have hkn := Kept.tr (b := _) (by first | exact hkc | exact hkc.tr (kept_drew _) | exact hkc.tr (kept_drewN _ _)) kx; clear hkc kx; have hkc := hkn; clear hkn; have bxx := hbw.kept hkc; have d0 := bxx.h0; have d1 := bxx.h1; have d2 := bxx.h2; have d3 := (Kept.cell' hkc hbp').trans hck; have ownx := hown.kept hkc; have d4 := ownx.cell (i := k) (by rw [hul.out]; omega); have d5 := ownx.frozen k))
      all_goals
        go_wp2_with (fail)
        go_roundw
        case rel =>
          refine ⟨k + 1, us.set k (mulG G a z), by omega, by go_num, hid (by simp [hul.out]), hus', ?_, ?_⟩
          · first | exact ownx.set _ _ | exact (ownx.set _ _).drew | exact (ownx.drewN _).set _ _ | exact (ownx.set _ _).drewN _
          · first | exact Below.setCell (hkw.tr hkc) (p := ⟨w.heap.size + 1, k, none⟩) (Nat.le_of_eq HZ1.out) _ | exact (Below.setCell (hkw.tr hkc) (p := ⟨w.heap.size + 1, k, none⟩) (Nat.le_of_eq HZ1.out) _).drew
        case measure => simp [intOf]; omega
    · have ek : k = p.length := by omega
      have hfin : Hid (t.pl us = Pl.c (t.e a) * t.pl p) := hid (Pl.ext (PS.ext fun i => by
        show t.e (us.getD i 0) = (Pl.c (t.e a) * t.pl p).a i
        rw [Pl.c_mul_at, t.pl_at, hus.out i]
        by_cases h2 : i < k
        · rw [if_pos h2, t.e_mul]
        · rw [if_neg h2, ld_out (l := p) (by omega), t.e_zero, Rg.mul_zero]))
      clear ek hus
      go_wp2_with (fail)
      refine (rCanon_p G t P M mod vm _ us _ ho hown.sl (by have := hul.out; omega)).mono ?_
      rintro e w5 ⟨v5, l5, rfl, o5, k5, c5, p5⟩
      have P5 := hid p5
      clear p5
      go_wp2_with (fail)
      go_ret
      exact ⟨_, l5, rfl, o5.mono (hk0.tr hkw).size, (hk0.tr hkw).tr k5, c5, by rw [P5.out, hfin.out]⟩
set_option maxRecDepth 100000 in
set_option maxHeartbeats 2000000 in
theorem rSub_p (G : GFd) (t : Tabs G) (P M : Int) (mod : List Int) (vm : Value) (vp vq : Value) (p q : List Int) (w : World) (ho : Hid (Of G P M mod)) (hvm : Sl w vm mod) (hvp : Sl w vp p) (hvq : Sl w vq q) (hlp : p.length ≤ 100000) (hlq : q.length ≤ 100000) :
    Calls Try.prog 81 #[.agg #[.int .i64 P, .int .i64 M, vm], vp, vq] w (OutP G t (t.pl p - t.pl q) w) := by
  have hk0 := kept_alloc w (.cells #[.int .i64 P, .int .i64 M, vm] 24)
  have hbx := boxF_new w P M vm 24
  have smv := hvm.kept hk0
  have svp := hvp.kept hk0
  have svq := hvq.kept hk0
  have HZ1 : (w.alloc (.cells #[.int .i64 P, .int .i64 M, vm] 24)).heap.size = w.heap.size + 1 := by simp
  have HZ1 := hid HZ1
  obtain ⟨w1, hw1⟩ : ∃ w1, w1 = w.alloc (.cells #[.int .i64 P, .int .i64 M, vm] 24) := ⟨_, rfl⟩
  rw [← hw1] at hk0 hbx smv HZ1 svp svq
  have hbw := hbx
  have c0 := hbx.h0
  have c1 := hbx.h1
  have c2 := hbx.h2
  go_enter Try.func81, Try.ntmps81
  go_wp2_with (fail)
  rw [← hw1]
  clear hw1
  have hkc := Kept.rfl' w1
  go_region_held3 (fun w' => w'.cell? ⟨w.heap.size, 0, none⟩ = some (.int .i64 P) ∧ w'.cell? ⟨w.heap.size, 1, none⟩ = some (.int .i64 M) ∧ w'.cell? ⟨w.heap.size, 2, none⟩ = some vm) (first | (simp [go_sem]; done) | (simp [*]; done))
    (first
      | (go_at_call 53; (with_reducible refine (rNeg_field G t P M mod vm 1 _ ho.out).mono ?_); rintro e wx ⟨rfl, kx⟩; have hkn := Kept.tr (b := _) (by first | exact hkc | exact hkc.tr (kept_drew _) | exact hkc.tr (kept_drewN _ _)) kx; clear hkc kx; have hkc := hkn; clear hkn; have bxx := hbw.kept hkc; have d0 := bxx.h0; have d1 := bxx.h1; have d2 := bxx.h2)
      | (go_at_call 82; (with_reducible refine (rScale_p G t P M mod vm (negG G 1) vq q _ ho (smv.kept (by first | exact hkc | exact hkc.tr (kept_drew _) | exact hkc.tr (kept_drewN _ _))) (svq.kept (by first | exact hkc | exact hkc.tr (kept_drew _) | exact hkc.tr (kept_drewN _ _))) hlq).mono ?_); rintro e wx ⟨v3, l3, rfl, o3, kx, c3, p3⟩; have P3 := hid p3; have n3 := t.can_ln' c3 p3; have hl3 : l3.length ≤ 100000 := (by have := Pl.ln_cmul_le (t.e (negG G 1)) (t.pl q); have := t.pl_ln_le q; omega); have s3 := o3.sl; clear p3 n3; have hkn := Kept.tr (b := _) (by first | exact hkc | exact hkc.tr (kept_drew _) | exact hkc.tr (kept_drewN _ _)) kx; clear hkc kx; have hkc := hkn; clear hkn; have bxx := hbw.kept hkc; have d0 := bxx.h0; have d1 := bxx.h1; have d2 := bxx.h2)
      | (go_at_call 96; (with_reducible refine (rAdd_p G t P M mod vm vp _ p l3 _ ho (smv.kept (by first | exact hkc | exact hkc.tr (kept_drew _) | exact hkc.tr (kept_drewN _ _))) (svp.kept (by first | exact hkc | exact hkc.tr (kept_drew _) | exact hkc.tr (kept_drewN _ _))) (s3.kept (by first | exact Kept.rfl' _ | exact kept_drew _ | exact kept_drewN _ _)) hlp hl3).mono ?_); rintro e wx ⟨v4, l4, rfl, o4, kx, c4, p4⟩; have P4 := hid p4; have o4' := o4.mono (show w.heap.size ≤ _ from (hk0.tr ((by first | exact hkc | exact hkc.tr (kept_drew _) | exact hkc.tr (kept_drewN _ _)))).size); clear p4; have hkn := Kept.tr (b := _) (by first | exact hkc | exact hkc.tr (kept_drew _) | exact hkc.tr (kept_drewN _ _)) kx; clear hkc kx; have hkc := hkn; clear hkn; have bxx := hbw.kept hkc; have d0 := bxx.h0; have d1 := bxx.h1; have d2 := bxx.h2))
  go_wp2_with (fail)
  go_ret
  exact ⟨_, l4, rfl, o4', hk0.tr hkc, c4, by rw [P4.out, P3.out, t.e_neg, t.e_one, Pl.c_neg, Pl.c_one, Rg.neg_mul, Rg.one_mul, ← Rg.sub_def]⟩
end Go.Proofs.Ytmnbcnbhnclkhaa
