/- The walks of Eval, FromRoots and Derivative of polynomials. Conditions: the field lies in memory with its tables; lengths are bounded. -/
import Derived.Test.YtmnbcnbhnclkhaaKf
import Derived.Test.YtmnbcnbhnclkhaaKw
import Derived.Test.YtmnbcnbhnclkhaaGf
namespace Go.Proofs.Ytmnbcnbhnclkhaa
open Go.RowKit Cw

set_option maxHeartbeats 1000000 in
theorem eval_p (b : Nat) (G : GFd) (t : Tabs G) (v : Value) (l : List Int) (x : Int) (w : World) (hg : IsGF w b G) (hv : Sl w v l) :
    Calls Try.prog 57 #[.pointer (some ⟨b, 0, none⟩), v, .int .i64 x] w fun e w' => e = .returned (.int .i64 (evL G l x)) ∧ ∃ m, w' = w.drewN m := by
  obtain ⟨a, cap, rfl, hcap, ⟨hcm, _⟩, hc⟩ := hv
  unfold maxLen at hcm
  go_enter Try.func57, Try.ntmps57
  go_wp2_with (fail)
  go_loopw [7, 8] (fun vy vi wr => ∃ (k : Nat) (i : Int), k ≤ l.length ∧ vi = .int .i64 i ∧ Hid (i = (k : Int) - 1) ∧ vy = .int .i64 (evL G (l.drop k) x) ∧ ∃ m, wr = w.drewN m) (fun _ vi _ => (intOf vi + 1).toNat)
  case atStart => exact ⟨l.length, _, Nat.le_refl _, rfl, hid rfl, val_int (by rw [List.drop_length]; rfl), 0, rfl⟩
  case round =>
    obtain ⟨k, i, hk, rfl, hi, rfl, m, hw⟩ := hrel
    have hgw : IsGF wr b G := by rw [hw]; exact hg.drewN m
    have hcw : ∀ a, wr.cell? a = w.cell? a := fun a => by rw [hw]; rfl
    have HW := hid hw
    clear hw
    by_cases hk0 : k = 0
    · obtain rfl : i = -1 := by have := hi.out; omega
      subst hk0
      clear hcw
      go_wp2_with (fail)
      go_ret
      exact ⟨rfl, m, HW.out⟩
    · obtain ⟨j, rfl⟩ : ∃ j, k = j + 1 := ⟨k - 1, by omega⟩
      obtain rfl : i = (j : Int) := by have := hi.out; omega
      obtain ⟨bp, off, rfl, hbp, hcell⟩ := hc (by intro e; rw [e] at hk; simp at hk)
      have hck := (hcw _).trans (hcell j (by omega))
      have hst : Hid (evL G (l.drop j) x = addG G (mulG G (evL G (l.drop (j + 1)) x) x) (l.getD j 0)) := hid (Tabs.evL_drop l (by omega) x)
      obtain ⟨z, hz⟩ : ∃ z, z = l.getD j 0 := ⟨_, rfl⟩
      obtain ⟨y, hy⟩ : ∃ y, y = evL G (l.drop (j + 1)) x := ⟨_, rfl⟩
      rw [← hz] at hck hst
      rw [← hy] at hst ⊢
      have i0 : (0 : Int) ≤ (j : Int) := by omega
      have i1 : (j : Int) < (l.length : Int) := by omega
      clear hcell hcw hz hy hk0
      go_wp2_with (fail)
      go_quiet (first | (go_at_call 43; refine Calls.quiet_of (mul_any b G y x _ (hgw.drewN _) t)) | (go_at_call 42; refine Calls.quiet_of (add_any b G (mulG G y x) z _ (hgw.drewN _) t)))
      go_wp2_with (fail)
      go_roundw
      case rel => exact ⟨j, _, by omega, rfl, hid rfl, val_int hst.out.symm, _, by rw [HW.out, World.drewN_drewN]⟩
      case measure => simp [intOf]

set_option maxRecDepth 100000 in
set_option maxHeartbeats 1000000 in
theorem fromRoots_p (b : Nat) (G : GFd) (t : Tabs G) (v : Value) (l : List Int) (w : World) (hg : IsGF w b G) (hv : Sl w v l) (hl : l.length ≤ 1000) :
    Calls Try.prog 69 #[.pointer (some ⟨b, 0, none⟩), v] w (OutP G t (Pl.prf (fun i => t.e (l.getD i 0)) l.length) w) := by
  obtain ⟨a, cap, rfl, hcap, ⟨hcm, _⟩, hc⟩ := hv
  unfold maxLen at hcm
  have k0 := kept_alloc w (.cells #[.int .i64 1] 3)
  have o0 := own_one (w := w) (B := w.heap.size) (x := 1) (Nat.le_refl _)
  go_enter Try.func69, Try.ntmps69
  go_wp2_with (fail)
  go_loopw [5, 11] (fun vo vi wr => ∃ (k : Nat) (l2 : List Int), k ≤ l.length ∧ vi = .int .i64 k ∧ Own wr w.heap.size vo l2 ∧ Kept w wr ∧ Cano G l2 ∧ Hid (t.pl l2 = Pl.prf (fun i => t.e (l.getD i 0)) k)) (fun _ vi _ => l.length - (intOf vi).toNat)
  case atStart => exact ⟨0, [1], by omega, rfl, o0, k0, cano_one t, hid t.pl_one⟩
  case round =>
    obtain ⟨k, l2, hk, rfl, ho, hkw, c2, p2⟩ := hrel
    clear o0 k0
    by_cases hlt : k < l.length
    · obtain ⟨bp, off, rfl, hbp, hcell⟩ := hc (by intro e; rw [e] at hlt; simp at hlt)
      have hck := (Kept.cell' hkw hbp).trans (hcell k hlt)
      have hst : Hid (Pl.prf (fun i => t.e (l.getD i 0)) (k + 1) = Pl.prf (fun i => t.e (l.getD i 0)) k * Pl.lin (t.e (l.getD k 0))) := hid rfl
      have hlen : l2.length ≤ 1001 := by have := t.can_ln' c2 p2.out; rw [Pl.ln_prf] at this; omega
      obtain ⟨z, hz⟩ : ∃ z, z = l.getD k 0 := ⟨_, rfl⟩
      rw [← hz] at hck hst
      have hgw := hg.kept hkw
      have hki : (k : Int) < (l.length : Int) := by omega
      clear hcell hz
      go_wp2_with (first
        | (go_at_call 56; (with_reducible refine (neg_any b G z _ hgw t).mono ?_); rintro e w3 ⟨rfl, n3, rfl⟩; have k3 := (kept_drewN wr n3).tr (kept_alloc (wr.drewN n3) (.cells #[.int .i64 (negG G z), .int .i64 1] 3)); have s3 : Sl ((wr.drewN n3).alloc (.cells #[.int .i64 (negG G z), .int .i64 1] 3)) (.slice (some ⟨wr.heap.size, 0, none⟩) 2 2) [negG G z, 1] := (own_two (w := wr.drewN n3) (B := 0) (Nat.zero_le _)).sl)
        | (go_at_call 87; (with_reducible refine (product_p b G t _ _ l2 [negG G z, 1] _ (hgw.kept k3) (ho.sl.kept k3) s3 (by omega) (by simp)).mono ?_); rintro e w4 ⟨v4, l4, rfl, o4, k4, c4, p4⟩; have P4 := hid p4; clear p4))
      go_roundw
      case rel => exact ⟨k + 1, l4, by omega, by go_num, o4.mono (by have := hkw.size; have := k3.size; omega), (hkw.tr k3).tr k4, c4, hid (by rw [P4.out, p2.out, hst.out, t.pl_lin])⟩
      case measure => simp [intOf]; omega
    · have ek : k = l.length := by omega
      have HP : Hid (t.pl l2 = Pl.prf (fun i => t.e (l.getD i 0)) l.length) := hid (by rw [p2.out, ek])
      clear ek
      go_wp2_with (fail)
      go_ret
      exact ⟨_, l2, rfl, ho, hkw, c2, HP.out⟩

theorem derivative_nil (b : Nat) (G : GFd) (t : Tabs G) (w : World) (a : Option Addr) (cap : Nat) :
    Calls Try.prog 58 #[.pointer (some ⟨b, 0, none⟩), .slice a 0 cap] w (OutP G t 0 w) := by
  go_enter Try.func58, Try.ntmps58
  go_wp2_with (fail)
  go_ret
  exact ⟨_, [], rfl, own_nil _ _, Kept.rfl' _, can_nil G, t.pl_nil⟩
theorem pl_der {G : GFd} (t : Tabs G) {p us : List Int} (hu : us.length + 1 = p.length) (h : ∀ i, i < us.length → us.getD i 0 = mulG G (((i : Int) + 1) % G.P) (p.getD (i + 1) 0)) : t.pl us = Pl.der (t.pl p) := Pl.ext (PS.ext fun i => by
  show t.e (us.getD i 0) = nsm (i + 1) (t.e (p.getD (i + 1) 0))
  by_cases hi : i < us.length
  · rw [h i hi, t.e_mul, nsm_mul', show ((i : Int) + 1) = ((i + 1 : Nat) : Int) by omega, t.e_mod]
  · rw [ld_out (by omega), ld_out (by omega), t.e_zero, nsm_nil])
set_option maxRecDepth 100000 in
set_option maxHeartbeats 2000000 in
theorem derivative_p (b : Nat) (G : GFd) (t : Tabs G) (v : Value) (p : List Int) (w : World) (hg : IsGF w b G) (hv : Sl w v p) (hl : p.length ≤ 1000000) :
    Calls Try.prog 58 #[.pointer (some ⟨b, 0, none⟩), v] w (OutP G t (Pl.der (t.pl p)) w) := by
  obtain ⟨a, cap, rfl, hcap, ⟨hcm, _⟩, hc⟩ := hv
  unfold maxLen at hcm
  by_cases hp0 : p = []
  · subst hp0
    have := derivative_nil b G t w a cap
    rwa [← show Pl.der (t.pl []) = 0 from Pl.ln_eq_zero.1 (by have := Pl.der_ln (t.pl []); have := t.pl_ln_le []; simp at this; omega)] at this
  obtain ⟨n, hn⟩ : ∃ n, p.length = n + 1 := ⟨p.length - 1, by have := List.length_pos_iff.2 hp0; omega⟩
  obtain ⟨bp, off, rfl, hbp, hcell⟩ := hc hp0
  have HC := hid hcell
  have HN := hid hn
  have HP0 := hid hp0
  obtain ⟨q1, q2, q3, q4, q5, q6, q7⟩ := t.qb
  rw [hn] at hcap hl ⊢
  have e1 : ((n + 1 : Nat) : Int) - 1 = (n : Int) := by omega
  have e2 : (n : Int) + 1 - 1 = (n : Int) := by omega
  have t1 : (((n + 1 : Nat) : Int) == 0) = false := by simp; omega
  have t2 : ((n : Int) + 1 == 0) = false := by simp; omega
  have E1 := hid e1
  have E2 := hid e2
  have hn6 : n ≤ 1000000 := by omega
  have hrf := run_fieldP
  clear hcell hc hn hp0 q1 q2 q5 q6 q7
  go_enter Try.func58, Try.ntmps58
  go_wp2_with (first
    | (at_make; refine wpList_make_ints rfl _ _ rfl n _ _ rfl rfl (by first | rfl | exact E1.out | exact E2.out) (by first | rfl | exact E1.out | exact E2.out) hn6 ?_; intro w1 ho hk)
    | (go_at_call 84; (with_reducible refine (gfField_any b G _ (hg.kept hk) t).mono ?_); rintro e w2 ⟨gm, cm, rfl, _, k2⟩))
  clear e1 e2 hrf
  have ho2 := ho.kept k2
  have hk2 := hk.tr k2
  clear ho hk k2
  go_loopw [20] (fun vi wr => ∃ (k : Nat) (us : List Int), k ≤ n ∧ vi = .int .i64 k ∧ Hid (us.length = n) ∧ Hid (∀ i, us.getD i 0 = if i < k then mulG G (((i : Int) + 1) % G.P) (p.getD (i + 1) 0) else 0) ∧
      Own wr w.heap.size (.slice (some ⟨w.heap.size, 0, none⟩) n n) us ∧ Kept w wr) (fun vi _ => n - (intOf vi).toNat)
  case atStart => exact ⟨0, _, by omega, rfl, hid (by simp), hid (fun i => by
    rw [if_neg (by omega)]
    by_cases hi : i < n
    · simp [hi]
    · rw [ld_out (by simp; omega)]), ho2, hk2⟩
  case round =>
    obtain ⟨k, us, hkp, rfl, hul, hus, hown, hkw⟩ := hrel
    clear ho2 hk2
    have hgw := hg.kept hkw
    by_cases hlt : k < n
    · have hck := (Kept.cell' hkw hbp).trans (HC.out (k + 1) (by rw [HN.out]; omega))
      obtain ⟨z, hz⟩ : ∃ z, z = p.getD (k + 1) 0 := ⟨_, rfl⟩
      rw [← hz] at hck
      have HZ := hid hz
      have hcu := hown.cell (i := k) (by rw [hul.out]; omega)
      have hfu := hown.frozen k
      obtain ⟨r, hr⟩ : ∃ r, r = ((k : Int) + 1) % G.P := ⟨_, rfl⟩
      have hus' : Hid (∀ i, (us.set k (mulG G r z)).getD i 0 = if i < k + 1 then mulG G (((i : Int) + 1) % G.P) (p.getD (i + 1) 0) else 0) := hid (fun i => by
        by_cases e : i = k
        · subst e
          rw [ldset_eq _ (by rw [hul.out]; omega), if_pos (by omega), ← HZ.out, hr]
        · rw [ldset_ne _ (fun h => e h.symm), hus.out i]
          by_cases h2 : i < k
          · rw [if_pos h2, if_pos (by omega)]
          · rw [if_neg h2, if_neg (by omega)])
      have hP0 : ¬ G.P = 0 := by omega
      have hki : (k : Int) < (n : Int) := by omega
      have k0 : (0 : Int) ≤ (k : Int) := by omega
      have k1 : (0 : Int) ≤ (k : Int) + 1 := by omega
      have k2 : (k : Int) + 1 < (n : Int) + 1 := by omega
      have k3 : ((k : Int) + 1).toNat = k + 1 := by omega
      have k4 : ((k : Int) + 1).tmod G.P = r := by rw [hr, Int.tmod_eq_emod_of_nonneg k1]
      have k5 : IntKind.i64.wrap ((k : Int) + 1) = (k : Int) + 1 := IntWalk.i64_in _ (by omega)
      have r1 : 0 ≤ r := by rw [hr]; exact Int.emod_nonneg _ (by omega)
      have r2 : r < 256 := by rw [hr]; have := Int.emod_lt_of_pos ((k : Int) + 1) (show 0 < G.P by omega); omega
      have k6 : IntKind.i64.wrap r = r := IntWalk.i64_in _ (by omega)
      clear hz hr
      go_wp2_with (fail)
      go_region_law (first
        | (go_simp; go_at_call 43; (with_reducible refine (mul_any b G r z _ (by first | exact hgw.drew | exact hgw.drewN _ | exact hgw.drew.drewN _) t).mono ?_); rintro e w4 ⟨rfl, n4, rfl⟩))
      all_goals
        clear k5 k6 k4 hP0
        go_wp2_with (fail)
        go_roundw
        case rel =>
          refine ⟨k + 1, us.set k (mulG G r z), by omega, by go_num, hid (by simp [hul.out]), hus', ?_, ?_⟩
          · first | exact (hown.drewN _).set k _ | exact ((hown.drewN _).set k _).drew | exact (hown.set k _).drewN _ | exact ((hown.set k _).drewN _).drew | exact (hown.set k _).drew
          · first | exact Below.setCell (hkw.drewN _) (p := ⟨w.heap.size, k, none⟩) (Nat.le_refl _) _ | exact (Below.setCell (hkw.drewN _) (p := ⟨w.heap.size, k, none⟩) (Nat.le_refl _) _).drew | exact Kept.drewN (Below.setCell hkw (p := ⟨w.heap.size, k, none⟩) (Nat.le_refl _) _) _
        case measure => simp [intOf]; omega
    · have ek : k = n := by omega
      have hfin : Hid (∀ i, i < us.length → us.getD i 0 = mulG G (((i : Int) + 1) % G.P) (p.getD (i + 1) 0)) := hid (fun i hi => by
        rw [hus.out i, if_pos (by have := hul.out; omega)])
      have hran : ∀ i, 0 ≤ us.getD i 0 ∧ us.getD i 0 < G.q := fun i => by
        by_cases hi : i < us.length
        · rw [hfin.out i hi]; exact t.mul_bd _ _
        · rw [ld_out (by omega)]; have := t.qb; omega
      have HR := hid hran
      clear ek hus hran
      go_wp2_with (go_at_call 79; (with_reducible refine (trim_pl t hown HR.out).mono ?_); rintro e w2 ⟨n2, l2, rfl, o2, ⟨m2, rfl⟩, c2, p2⟩; have P2 := hid p2; clear p2)
      go_ret
      exact ⟨_, l2, rfl, o2, hkw.drewN _, c2, by rw [P2.out, pl_der t (by rw [hul.out, HN.out]) hfin.out]⟩
end Go.Proofs.Ytmnbcnbhnclkhaa
