/- The walks of the reference's Eval, times and Derivative of polynomials. Conditions: a field's description; lengths are bounded. -/
import Derived.Test.YtmnbcnbhnclkhaaQb
import Derived.Test.YtmnbcnbhnclkhaaKg
namespace Go.Proofs.Ytmnbcnbhnclkhaa
open Go.RowKit Cw

def pwS (G : GFd) (x : Int) : Nat → Int
  | 0 => 1
  | k + 1 => mulG G (pwS G x k) x
def evS (G : GFd) (p : List Int) (x : Int) : Nat → Int
  | 0 => 0
  | k + 1 => addG G (evS G p x k) (mulG G (p.getD k 0) (pwS G x k))
def tmS (G : GFd) (x : Int) : Nat → Int
  | 0 => 0
  | k + 1 => addG G (tmS G x k) x
theorem e_pwS {G : GFd} (t : Tabs G) (x : Int) : ∀ k, t.e (pwS G x k) = Rg.pw (t.e x) k
  | 0 => t.e_one
  | k + 1 => by rw [pwS, t.e_mul, e_pwS t x k]; rfl
theorem e_evS {G : GFd} (t : Tabs G) (p : List Int) (x : Int) : ∀ k, t.e (evS G p x k) = Rg.sm k (fun i => t.e (p.getD i 0) * Rg.pw (t.e x) i)
  | 0 => t.e_zero
  | k + 1 => by rw [evS, t.e_add, t.e_mul, e_evS t p x k, e_pwS]; rfl
theorem evS_bd {G : GFd} (t : Tabs G) (p : List Int) (x : Int) : ∀ k, 0 ≤ evS G p x k ∧ evS G p x k < G.q
  | 0 => by have := t.qb; unfold evS; omega
  | k + 1 => t.add_bd _ _
theorem evS_eq {G : GFd} (t : Tabs G) (p : List Int) (x : Int) : evS G p x p.length = evL G p x := by
  refine t.evL_of (evS_bd t p x _) ?_
  rw [e_evS, ← Pl.ev_of (t.po_dl p)]
  rfl
theorem e_tmS {G : GFd} (t : Tabs G) (x : Int) : ∀ k, t.e (tmS G x k) = nsm k (t.e x)
  | 0 => t.e_zero
  | k + 1 => by rw [tmS, t.e_add, e_tmS t x k]; rfl
theorem tmS_bd {G : GFd} (t : Tabs G) (x : Int) : ∀ k, 0 ≤ tmS G x k ∧ tmS G x k < G.q
  | 0 => by have := t.qb; unfold tmS; omega
  | k + 1 => t.add_bd _ _
theorem e_tmS_mod {G : GFd} (t : Tabs G) (x : Int) (n : Nat) : t.e (tmS G x (n % G.P.toNat)) = nsm n (t.e x) := by rw [e_tmS, nsm_mod t.nsm_P]
set_option maxRecDepth 100000 in
set_option maxHeartbeats 2000000 in
theorem rEval_p (G : GFd) (t : Tabs G) (P M : Int) (mod : List Int) (vm : Value) (v : Value) (p : List Int) (x : Int) (w : World) (ho : Hid (Of G P M mod)) (hvm : Sl w vm mod) (hv : Sl w v p) (hl : p.length ≤ 1000000) :
    Calls Try.prog 35 #[.agg #[.int .i64 P, .int .i64 M, vm], v, .int .i64 x] w fun e w' => e = .returned (.int .i64 (evL G p x)) ∧ Kept w w' := by
  have hk0 := kept_alloc w (.cells #[.int .i64 P, .int .i64 M, vm] 24)
  have hbx := boxF_new w P M vm 24
  have smv := hvm.kept hk0
  have svp := hv.kept hk0
  have HZ1 : (w.alloc (.cells #[.int .i64 P, .int .i64 M, vm] 24)).heap.size = w.heap.size + 1 := by simp
  have HZ1 := hid HZ1
  obtain ⟨w1, hw1⟩ : ∃ w1, w1 = w.alloc (.cells #[.int .i64 P, .int .i64 M, vm] 24) := ⟨_, rfl⟩
  rw [← hw1] at hk0 hbx smv HZ1 svp
  obtain ⟨ap, capp, rfl, hcapp, ⟨hcmp, _⟩, hcp⟩ := svp
  unfold maxLen at hcmp
  go_enter Try.func35, Try.ntmps35
  go_wp2_with (fail)
  rw [← hw1]
  clear hw1
  go_loopw [7, 8, 9] (fun vo vw vi wr => ∃ k : Nat, k ≤ p.length ∧ vi = .int .i64 k ∧ vo = .int .i64 (evS G p x k) ∧ vw = .int .i64 (pwS G x k) ∧ Kept w1 wr) (fun _ _ vi _ => p.length - (intOf vi).toNat)
  case atStart => exact ⟨0, by omega, rfl, rfl, rfl, Kept.rfl' _⟩
  case round =>
    obtain ⟨k, hk, rfl, rfl, rfl, hkw⟩ := hrel
    have hbw := hbx.kept hkw
    have c0 := hbw.h0
    have c1 := hbw.h1
    have c2 := hbw.h2
    have smw := smv.kept hkw
    by_cases hlt : k < p.length
    · obtain ⟨bp, off, rfl, hbp, hcell⟩ := hcp (by intro e; rw [e] at hlt; simp at hlt)
      have hck := (Kept.cell' hkw hbp).trans (hcell k hlt)
      have hbp' : bp < wr.heap.size := Nat.lt_of_lt_of_le hbp hkw.size
      obtain ⟨z, hz⟩ : ∃ z, z = p.getD k 0 := ⟨_, rfl⟩
      obtain ⟨s, hs⟩ : ∃ s, s = evS G p x k := ⟨_, rfl⟩
      obtain ⟨y, hy⟩ : ∃ y, y = pwS G x k := ⟨_, rfl⟩
      have H1 : Hid (evS G p x (k + 1) = addG G s (mulG G z y)) := hid (by rw [hz, hs, hy]; rfl)
      have H2 : Hid (pwS G x (k + 1) = mulG G y x) := hid (by rw [hy]; rfl)
      rw [← hz] at hck
      rw [← hs, ← hy]
      have hki : (k : Int) < (p.length : Int) := by omega
      have k0 : (0 : Int) ≤ (k : Int) := by omega
      clear hz hs hy hcell hcp
      go_wp2_with (fail)
      have hkc := Kept.rfl' wr
      go_region_held3 (fun w' => w'.cell? ⟨w.heap.size, 0, none⟩ = some (.int .i64 P) ∧ w'.cell? ⟨w.heap.size, 1, none⟩ = some (.int .i64 M) ∧ w'.cell? ⟨w.heap.size, 2, none⟩ = some vm ∧ w'.cell? ⟨bp, off + k, none⟩ = some (.int .i64 z)) (first | (simp [go_sem]; done) | (simp [*]; done))
        (first
          | (go_at_call 34; (with_reducible refine (rMul_field G t P M mod vm z y _ ho.out (smw.kept (by first | exact hkc | exact hkc.tr (kept_drew _) | exact hkc.tr (kept_drewN _ _)))).mono ?_); rintro e wx ⟨rfl, kx⟩; have hkn := Kept.tr (b := _) (by first | exact hkc | exact hkc.tr (kept_drew _) | exact hkc.tr (kept_drewN _ _)) kx; clear hkc kx; have hkc := hkn; clear hkn; have bxx := hbw.kept hkc; have d0 := bxx.h0; have d1 := bxx.h1; have d2 := bxx.h2; have d3 := (Kept.cell' hkc hbp').trans hck)
          | (go_at_call 45; (with_reducible refine (rAdd_field G t P M mod vm s (mulG G z y) _ ho.out).mono ?_); rintro e wx ⟨rfl, kx⟩; have hkn := Kept.tr (b := _) (by first | exact hkc | exact hkc.tr (kept_drew _) | exact hkc.tr (kept_drewN _ _)) kx; clear hkc kx; have hkc := hkn; clear hkn; have bxx := hbw.kept hkc; have d0 := bxx.h0; have d1 := bxx.h1; have d2 := bxx.h2; have d3 := (Kept.cell' hkc hbp').trans hck))
      go_wp2_with (go_at_call 34; (with_reducible refine (rMul_field G t P M mod vm y x _ ho.out (smw.kept (by first | exact hkc | exact hkc.tr (kept_drew _) | exact hkc.tr (kept_drewN _ _)))).mono ?_); rintro e wx ⟨rfl, kx⟩; have hkn := Kept.tr (b := _) (by first | exact hkc | exact hkc.tr (kept_drew _) | exact hkc.tr (kept_drewN _ _)) kx; clear hkc kx; have hkc := hkn; clear hkn; have bxx := hbw.kept hkc; have d0 := bxx.h0; have d1 := bxx.h1; have d2 := bxx.h2)
      go_roundw
      case rel => exact ⟨k + 1, by omega, by go_num, val_int H1.out.symm, val_int H2.out.symm, hkw.tr hkc⟩
      case measure => simp [intOf]; omega
    · obtain rfl : k = p.length := by omega
      have H1 := hid (evS_eq t p x)
      go_wp2_with (fail)
      go_ret
      exact ⟨ret_int H1.out, hk0.tr hkw⟩
set_option maxRecDepth 100000 in
set_option maxHeartbeats 2000000 in
theorem rTimes_p (G : GFd) (t : Tabs G) (P M : Int) (mod : List Int) (vm : Value) (n : Nat) (N : Int) (hN : N = (n : Int)) (x : Int) (w : World) (ho : Hid (Of G P M mod)) (hn : n ≤ 1000000) :
    Calls Try.prog 85 #[.agg #[.int .i64 P, .int .i64 M, vm], .int .i64 N, .int .i64 x] w fun e w' => e = .returned (.int .i64 (tmS G x (n % G.P.toNat))) ∧ Kept w w' := by
  subst hN
  have hk0 := kept_alloc w (.cells #[.int .i64 P, .int .i64 M, vm] 24)
  have hbx := boxF_new w P M vm 24
  have HZ1 : (w.alloc (.cells #[.int .i64 P, .int .i64 M, vm] 24)).heap.size = w.heap.size + 1 := by simp
  have HZ1 := hid HZ1
  obtain ⟨w1, hw1⟩ : ∃ w1, w1 = w.alloc (.cells #[.int .i64 P, .int .i64 M, vm] 24) := ⟨_, rfl⟩
  rw [← hw1] at hk0 hbx HZ1
  obtain ⟨q1, q2, q3, q4, q5, q6, q7⟩ := t.qb
  obtain ⟨m, hm⟩ : ∃ m, m = n % G.P.toNat := ⟨_, rfl⟩
  have hP : G.P = P := ho.out.1
  have hm' : (n : Int) % P = (m : Int) := by
    rw [hm, Int.natCast_emod, Int.toNat_of_nonneg (by omega), hP]
  have P0 : ¬ P = 0 := by omega
  have P1 : 0 < P := by omega
  have P2 : P ≤ 256 := by omega
  have n0 : (0 : Int) ≤ (n : Int) := by omega
  have HM := hid hm
  have HM' := hid hm'
  have hml : m ≤ 1000000 := by have := Nat.mod_le n G.P.toNat; omega
  clear q1 q2 q3 q4 q5 q6 q7 hm hm' hP
  go_enter Try.func85, Try.ntmps85
  go_wp2_with (fail)
  rw [← hw1]
  clear hw1
  go_loopw [7, 8] (fun vs vi wr => ∃ k : Nat, k ≤ m ∧ vi = .int .i64 k ∧ vs = .int .i64 (tmS G x k) ∧ Kept w1 wr) (fun _ vi _ => m - (intOf vi).toNat)
  case atStart => exact ⟨0, by omega, rfl, rfl, Kept.rfl' _⟩
  case round =>
    obtain ⟨k, hk, rfl, rfl, hkw⟩ := hrel
    have hbw := hbx.kept hkw
    have c0 := hbw.h0
    have c1 := hbw.h1
    have c2 := hbw.h2
    obtain ⟨s, hs⟩ : ∃ s, s = tmS G x k := ⟨_, rfl⟩
    have H1 : Hid (tmS G x (k + 1) = addG G s x) := hid (by rw [hs]; rfl)
    have H2 : Hid (s = tmS G x k) := hid hs
    rw [← hs]
    clear hs
    by_cases hlt : k < m
    · have h1 : (k : Int) < (n : Int) % P := by have := HM'.out; omega
      go_wp2_with (go_at_call 45; (with_reducible refine (rAdd_field G t P M mod vm s x _ ho.out).mono ?_); rintro e w3 ⟨rfl, k3⟩)
      go_roundw
      case rel => exact ⟨k + 1, by omega, by go_num, val_int H1.out.symm, hkw.tr k3⟩
      case measure => simp [intOf]; omega
    · have h1 : (n : Int) % P ≤ (k : Int) := by have := HM'.out; omega
      have ek : Hid (k = m) := hid (by omega)
      go_wp2_with (fail)
      go_ret
      exact ⟨ret_int (by rw [H2.out, ek.out, HM.out]), hk0.tr hkw⟩
theorem pl_der' {G : GFd} (t : Tabs G) {p us : List Int} (hu : us.length + 1 = p.length) (h : ∀ i, i < us.length → us.getD i 0 = tmS G (p.getD (i + 1) 0) ((i + 1) % G.P.toNat)) : t.pl us = Pl.der (t.pl p) := Pl.ext (PS.ext fun i => by
  show t.e (us.getD i 0) = nsm (i + 1) (t.e (p.getD (i + 1) 0))
  by_cases hi : i < us.length
  · rw [h i hi, e_tmS_mod]
  · rw [ld_out (by omega), ld_out (by omega), t.e_zero, nsm_nil])
theorem der_nil {G : GFd} (t : Tabs G) : Pl.der (t.pl []) = 0 := Pl.ln_eq_zero.1 (by have := Pl.der_ln (t.pl []); have := t.pl_ln_le []; simp at this; omega)
set_option maxRecDepth 100000 in
set_option maxHeartbeats 2000000 in
theorem rDerivative_p (G : GFd) (t : Tabs G) (P M : Int) (mod : List Int) (vm : Value) (v : Value) (p : List Int) (w : World) (ho : Hid (Of G P M mod)) (hvm : Sl w vm mod) (hv : Sl w v p) (hl : p.length ≤ 100000) :
    Calls Try.prog 60 #[.agg #[.int .i64 P, .int .i64 M, vm], v] w (OutP G t (Pl.der (t.pl p)) w) := by
  have hk0 := kept_alloc w (.cells #[.int .i64 P, .int .i64 M, vm] 24)
  have hbx := boxF_new w P M vm 24
  have smv := hvm.kept hk0
  have svp := hv.kept hk0
  have HZ1 : (w.alloc (.cells #[.int .i64 P, .int .i64 M, vm] 24)).heap.size = w.heap.size + 1 := by simp
  have HZ1 := hid HZ1
  obtain ⟨w1, hw1⟩ : ∃ w1, w1 = w.alloc (.cells #[.int .i64 P, .int .i64 M, vm] 24) := ⟨_, rfl⟩
  rw [← hw1] at hk0 hbx smv HZ1 svp
  obtain ⟨ap, capp, rfl, hcapp, ⟨hcmp, _⟩, hcp⟩ := svp
  unfold maxLen at hcmp
  by_cases hp0 : p = []
  · subst hp0
    go_enter Try.func60, Try.ntmps60
    go_wp2_with (fail)
    rw [← hw1]
    go_ret
    exact ⟨_, [], rfl, own_nil _ _, hk0, can_nil G, by rw [der_nil, t.pl_nil]⟩
  obtain ⟨n, hn⟩ : ∃ n, p.length = n + 1 := ⟨p.length - 1, by have := List.length_pos_iff.2 hp0; omega⟩
  obtain ⟨bp, off, rfl, hbp, hcell⟩ := hcp hp0
  have HC := hid hcell
  have HN := hid hn
  have hbn : bp < w.heap.size + 1 := Nat.lt_of_lt_of_eq hbp HZ1.out
  rw [hn] at hcapp hl ⊢
  have t1 : (((n + 1 : Nat) : Int) == 0) = false := beq0 (by omega)
  have t2 : ((n : Int) + 1 == 0) = false := by have := beq0 (n := n + 1) (by omega); simpa using this
  have E1 : Hid (((n + 1 : Nat) : Int) - 1 = (n : Int)) := hid (by omega)
  have E2 : Hid ((n : Int) + 1 - 1 = (n : Int)) := hid (by omega)
  have hn6 : n ≤ 1000000 := by omega
  clear hcell hcp hn hp0
  go_enter Try.func60, Try.ntmps60
  go_wp2_with (at_make; refine wpList_make_ints rfl _ _ rfl n _ _ rfl rfl (by first | rfl | exact E1.out | exact E2.out) (by first | rfl | exact E1.out | exact E2.out) hn6 ?_; intro w2 ho2 hk2; rw [← hw1] at hk2; simp only [World.size_alloc] at ho2)
  clear hw1
  go_loopw [6] (fun vi wr => ∃ (k : Nat) (us : List Int), k ≤ n ∧ vi = .int .i64 k ∧ Hid (us.length = n) ∧ Hid (∀ i, us.getD i 0 = if i < k then tmS G (p.getD (i + 1) 0) ((i + 1) % G.P.toNat) else 0) ∧
      Own wr (w.heap.size + 1) (.slice (some ⟨w.heap.size + 1, 0, none⟩) n n) us ∧ Kept w1 wr) (fun vi _ => n - (intOf vi).toNat)
  case atStart => exact ⟨0, _, by omega, rfl, hid (by simp), hid (fun i => by
    rw [if_neg (by omega)]
    by_cases hi : i < n
    · simp [hi]
    · rw [ld_out (by simp; omega)]), ho2, hk2⟩
  case round =>
    obtain ⟨k, us, hkp, rfl, hul, hus, hown, hkw⟩ := hrel
    clear ho2 hk2
    have hbw := hbx.kept hkw
    have c0 := hbw.h0
    have c1 := hbw.h1
    have c2 := hbw.h2
    by_cases hlt : k < n
    · have hck := (Kept.cell' hkw hbp).trans (HC.out (k + 1) (by rw [HN.out]; omega))
      have hbp' : bp < wr.heap.size := Nat.lt_of_lt_of_le hbp hkw.size
      obtain ⟨z, hz⟩ : ∃ z, z = p.getD (k + 1) 0 := ⟨_, rfl⟩
      rw [← hz] at hck
      obtain ⟨y, hy⟩ : ∃ y, y = tmS G z ((k + 1) % G.P.toNat) := ⟨_, rfl⟩
      have HY : Hid (tmS G z ((k + 1) % G.P.toNat) = y) := hid hy.symm
      have hcu := hown.cell (i := k) (by rw [hul.out]; omega)
      have hfu := hown.frozen k
      have hki : (k : Int) < (n : Int) := by omega
      have k0 : (0 : Int) ≤ (k : Int) := by omega
      have k1 : (0 : Int) ≤ (k : Int) + 1 := by omega
      have k2 : (k : Int) + 1 < (n : Int) + 1 := by omega
      have k3 : ((k : Int) + 1).toNat = k + 1 := by omega
      have k5 : IntKind.i64.wrap ((k : Int) + 1) = ((k + 1 : Nat) : Int) := by rw [IntWalk.i64_in _ (by omega)]; omega
      have k6 : ((k + 1 : Nat) : Int) < (n : Int) + 1 := by omega
      have k7 : (0 : Int) ≤ ((k + 1 : Nat) : Int) := by omega
      have hus' : Hid (∀ i, (us.set k y).getD i 0 = if i < k + 1 then tmS G (p.getD (i + 1) 0) ((i + 1) % G.P.toNat) else 0) := hid (fun i => by
        by_cases e : i = k
        · subst e
          rw [ldset_eq _ (by rw [hul.out]; omega), if_pos (by omega), hy, hz]
        · rw [ldset_ne _ (fun h => e h.symm), hus.out i]
          by_cases h2 : i < k
          · rw [if_pos h2, if_pos (by omega)]
          · rw [if_neg h2, if_neg (by omega)])
      clear hz hy
      go_wp2_with (fail)
      have hkc := Kept.rfl' wr
      go_region_held3 (fun w' => w'.cell? ⟨w.heap.size, 0, none⟩ = some (.int .i64 P) ∧ w'.cell? ⟨w.heap.size, 1, none⟩ = some (.int .i64 M) ∧ w'.cell? ⟨w.heap.size, 2, none⟩ = some vm ∧ w'.cell? ⟨bp, off + (k + 1), none⟩ = some (.int .i64 z)) (first | (simp [go_sem]; done) | (refine ⟨?_, ?_, ?_, ?_⟩ <;> (rw [cell_setNe _ (by omega)]; assumption)) | (simp [*]; done))
        (first
          | (go_at_call 85; (with_reducible refine (rTimes_p G t P M mod vm (k + 1) _ (by omega) z _ ho (by omega)).mono ?_); rintro e wx ⟨rfl, kx⟩; rw [HY.out]; have hkn := Kept.tr (b := _) (by first | exact hkc | exact hkc.tr (kept_drew _) | exact hkc.tr (kept_drewN _ _)) kx; clear hkc kx; have hkc := hkn; clear hkn; have bxx := hbw.kept hkc; have d0 := bxx.h0; have d1 := bxx.h1; have d2 := bxx.h2; have d3 := (Kept.cell' hkc hbp').trans hck; have ownx := hown.kept hkc; have d4 := ownx.cell (i := k) (by rw [hul.out]; omega); have d5 := ownx.frozen k))
      all_goals
        clear k5
        go_wp2_with (fail)
        go_roundw
        case rel =>
          refine ⟨k + 1, us.set k y, by omega, by go_num, hid (by simp [hul.out]), hus', ?_, ?_⟩
          · first | exact ownx.set _ _ | exact (ownx.set _ _).drew | exact (ownx.drewN _).set _ _ | exact (ownx.set _ _).drewN _
          · first | exact Below.setCell (hkw.tr hkc) (p := ⟨w.heap.size + 1, k, none⟩) (Nat.le_of_eq HZ1.out) _ | exact (Below.setCell (hkw.tr hkc) (p := ⟨w.heap.size + 1, k, none⟩) (Nat.le_of_eq HZ1.out) _).drew
        case measure => simp [intOf]; omega
    · have ek : k = n := by omega
      have hfin : Hid (t.pl us = Pl.der (t.pl p)) := hid (pl_der' t (by rw [hul.out, HN.out]) (fun i hi => by rw [hus.out i, if_pos (by have := hul.out; omega)]))
      clear ek hus
      go_wp2_with (fail)
      refine (rCanon_p G t P M mod vm _ us _ ho hown.sl (by have := hul.out; omega)).mono ?_
      rintro e w5 ⟨v5, l5, rfl, o5, k5, c5, p5⟩
      have P5 := hid p5
      clear p5
      go_wp2_with (fail)
      go_ret
      exact ⟨_, l5, rfl, o5.mono (hk0.tr hkw).size, (hk0.tr hkw).tr k5, c5, by rw [P5.out, hfin.out]⟩
end Go.Proofs.Ytmnbcnbhnclkhaa
