/- The walk of the law FieldCounts. No conditions. -/
import Derived.Test.YtnmidgcmlkofjaaLc
import Derived.Test.YtnmidgcmlkofjaaRg
import Derived.Test.YtnmidgcmlkofjaaGe
namespace Go.Proofs.Ytnmidgcmlkofjaa
open Go.RowKit Cw

theorem gcd_step {a c k : Nat} (h : Nat.gcd a c = k) : Nat.gcd c (a % c) = k := by rw [← h, Nat.gcd_comm a c, Nat.gcd_rec c a, Nat.gcd_comm]
set_option maxHeartbeats 800000 in
theorem coprime_any (n : Nat) (w : World) (hn1 : 1 ≤ n) (hn : n ≤ 256) :
    Calls Try.prog 34 #[.int .i64 n] w fun e w' => e = .returned (.int .i64 (cntC n n : Nat)) ∧ ∃ m, w' = w.drewN m := by
  have HN1 := hid hn1
  clear hn1
  go_enter Try.func34, Try.ntmps34
  go_wp2_with (fail)
  go_loopw [3, 4] (fun vc vi wr => ∃ k : Nat, k ≤ n ∧ vi = .int .i64 ((k : Int) + 1) ∧ vc = .int .i64 (cntC n k : Nat) ∧ ∃ m, wr = w.drewN m) (fun _ vi _ => n + 1 - (intOf vi).toNat)
  case atStart => exact ⟨0, by omega, rfl, rfl, 0, rfl⟩
  case round =>
    obtain ⟨k, hk, rfl, rfl, m, rfl⟩ := hrel
    have hcl := cntC_le n k
    have hsu := hid (cntC_succ n k)
    obtain ⟨c0, hc0⟩ : ∃ c, c = cntC n k := ⟨_, rfl⟩
    rw [← hc0] at hcl hsu ⊢
    have HC0 := hid hc0
    clear hc0
    by_cases hlt : k < n
    · have hnn : Hid (∀ z, z = Nat.gcd (k + 1) n → True) := hid (fun _ _ => trivial)
      go_wp2_with (fail)
      go_loopw [5, 6] (fun va vb wr => ∃ a c : Nat, va = .int .i64 a ∧ vb = .int .i64 c ∧ 0 < a ∧ a ≤ 256 ∧ c ≤ 256 ∧ Hid (Nat.gcd a c = Nat.gcd (k + 1) n) ∧ ∃ m, wr = w.drewN m) (fun _ vb _ => (intOf vb).toNat)
      case atStart => exact ⟨k + 1, n, by go_num, rfl, by omega, by omega, by omega, hid rfl, _, rfl⟩
      case round =>
        obtain ⟨a, c, rfl, rfl, a0, a1, c1, hgc, m2, rfl⟩ := hrel
        by_cases hc : 0 < c
        · have r0 := Int.emod_nonneg (a : Int) (show (c : Int) ≠ 0 by omega)
          have r1 := Int.emod_lt_of_pos (a : Int) (show (0 : Int) < c by omega)
          have r2 := Nat.mod_lt a hc
          have tc : ((c : Int) != 0) = true := by simp; omega
          go_wp2_with (fail)
          go_quiet (fail)
          go_wp2_with (fail)
          go_roundw
          case rel => exact ⟨c, a % c, rfl, val_int (Int.natCast_emod a c).symm, by omega, by omega, by omega, hid (gcd_step hgc.out), _, World.drewN_drewN _ _ _⟩
          case measure => simp [intOf]; omega
        · have e0 : c = 0 := by omega
          subst e0
          have hgg : Hid (a = Nat.gcd (k + 1) n) := hid (by rw [← hgc.out, Nat.gcd_zero_right])
          by_cases ha : a = 1
          · subst ha
            have hs : Hid (cntC n (k + 1) = c0 + 1) := hid (by rw [hsu.out, if_pos hgg.out.symm])
            go_wp2_with (fail)
            go_roundw
            case rel => exact ⟨k + 1, by omega, by go_num, val_int (by rw [hs.out]; omega), _, rfl⟩
            case measure => simp [intOf]; omega
          · have hs : Hid (cntC n (k + 1) = c0) := hid (by rw [hsu.out, if_neg (fun e => ha (by rw [hgg.out, e]))]; rfl)
            have ta : ((a : Int) == 1) = false := by simp; omega
            clear ha
            go_wp2_with (fail)
            go_roundw
            case rel => exact ⟨k + 1, by omega, by go_num, val_int (by rw [hs.out]), _, rfl⟩
            case measure => simp [intOf]; omega
    · have ek : k = n := by omega
      have HF : Hid (c0 = cntC n n) := hid (by rw [HC0.out, ek])
      go_wp2_with (fail)
      go_ret
      exact ⟨ret_int (by rw [HF.out]), _, rfl⟩

set_option maxHeartbeats 1500000 in
theorem fieldCounts_law (P M : Int) (vm : Value) (mod : List Int) (n : Int) (w : World) (hvm : Sl w vm mod) :
    Calls Try.prog 8 #[.agg #[.int .i64 P, .int .i64 M, vm], .int .i64 n] w fun e w' => e = .returned (.bool true) ∧ Kept w w' := by
  have hk := kept_alloc w (.cells #[.int .i64 P, .int .i64 M, vm] 24)
  have bx0 := boxF_new w P M vm 24
  have sv := hvm.kept hk
  by_cases hf : FieldP P M mod
  case neg =>
    have HF := hid hf
    clear hf
    go_enter Try.func8, Try.ntmps8
    go_wp2_with (first
      | (go_at_call 17; (with_reducible refine (alive_any _).mono ?_); rintro e w1 ⟨rfl, ka⟩; have b1 := bx0.kept ka; have s1 := sv.kept ka; have hkA := hk.tr ka; have c3 := b1.h0; have c4 := b1.h1; have c5 := b1.h2)
      | (go_at_call 18; (with_reducible refine (made_no P M vm mod _ s1 HF.out).mono ?_); rintro e w2 ⟨rfl, k2⟩; have hkB := hkA.tr k2; have s2 := hvm.kept hkB; have b2 := b1.kept k2; have d0 := b2.h0; have d1 := b2.h1; have d2 := b2.h2)
      | (go_at_call 19; (with_reducible refine (none_any P M vm mod _ s2 HF.out).mono ?_); rintro e w3 ⟨rfl, k3⟩))
    go_ret
    exact ⟨rfl, hkB.tr k3⟩
  have HF := hid hf
  clear hf
  go_enter Try.func8, Try.ntmps8
  go_wp2_with (first
    | (go_at_call 17; (with_reducible refine (alive_any _).mono ?_); rintro e w1 ⟨rfl, ka⟩; have b1 := bx0.kept ka; have s1 := sv.kept ka; have hkA := hk.tr ka; have c3 := b1.h0; have c4 := b1.h1; have c5 := b1.h2)
    | (go_at_call 18; (with_reducible refine (made_yes P M vm mod _ s1 HF.out).mono ?_); rintro e w2 ⟨b, G, rfl, hg2, t2, gP, gM, gm, k2⟩; have hkC := hkA.tr k2; have s2 := s1.kept k2; have b2 := b1.kept k2; have d0 := b2.h0; have d1 := b2.h1; have d2 := b2.h2; have HO : Hid (Of G P M mod) := hid ⟨gP, gM, gm⟩; clear gP gM gm))
  have HQ : Hid (ordS P M = G.q) := hid (by rw [← HO.out.1, ← HO.out.2.1, ← t2.hq])
  by_cases h1 : n < 1
  · go_wp2_with (first
      | (go_at_call 25; (with_reducible refine (rOrder_any P M vm _).mono ?_); rintro e w11 ⟨rfl, k11⟩; rw [HQ.out]; have kk11 := Kept.tr (a := w2) (by first | exact Kept.rfl' _ | exact kept_drew _ | exact kept_drewN _ _ | exact (kept_drew _).drewN _) k11; have hg11 := hg2.kept kk11; have b11 := b2.kept kk11; have s11 := s2.kept kk11; have hk11 := hkC.tr kk11; have x11 := b11.h0; have y11 := b11.h1; have z11 := b11.h2))
    go_ret
    exact ⟨rfl, Kept.tr hk11 (by first | exact Kept.rfl' _ | exact kept_drew _ | exact kept_drewN _ _ | exact (kept_drew _).drewN _)⟩
  by_cases h2 : G.q < n
  · go_wp2_with (first
      | (go_at_call 25; (with_reducible refine (rOrder_any P M vm _).mono ?_); rintro e w11 ⟨rfl, k11⟩; rw [HQ.out]; have kk11 := Kept.tr (a := w2) (by first | exact Kept.rfl' _ | exact kept_drew _ | exact kept_drewN _ _ | exact (kept_drew _).drewN _) k11; have hg11 := hg2.kept kk11; have b11 := b2.kept kk11; have s11 := s2.kept kk11; have hk11 := hkC.tr kk11; have x11 := b11.h0; have y11 := b11.h1; have z11 := b11.h2))
    go_ret
    exact ⟨rfl, Kept.tr hk11 (by first | exact Kept.rfl' _ | exact kept_drew _ | exact kept_drewN _ _ | exact (kept_drew _).drewN _)⟩
  obtain ⟨nn, rfl⟩ := Int.eq_ofNat_of_zero_le (show 0 ≤ n by omega)
  have n1 : 1 ≤ nn := by omega
  have n2 : (nn : Int) ≤ G.q := by omega
  obtain ⟨q1, q2, _, _, _, _, q7⟩ := t2.qb
  clear q7 h1 h2
  obtain ⟨N, hN⟩ : ∃ N, N = G.q.toNat - 1 := ⟨_, rfl⟩
  have hNI : G.q = (N : Int) + 1 := by omega
  have N1 : 1 ≤ N := by omega
  have HNI := hid hNI
  have hcnt := t2.count (n := nn) (by omega)
  have hful := t2.full
  rw [← hN] at hcnt hful
  have HCN := hid hcnt
  have N255 : N ≤ 255 := by omega
  clear hN hNI hcnt
  go_wp2_with (first
    | (go_at_call 25; (with_reducible refine (rOrder_any P M vm _).mono ?_); rintro e w11 ⟨rfl, k11⟩; rw [HQ.out]; have kk11 := Kept.tr (a := w2) (by first | exact Kept.rfl' _ | exact kept_drew _ | exact kept_drewN _ _ | exact (kept_drew _).drewN _) k11; have hg11 := hg2.kept kk11; have b11 := b2.kept kk11; have s11 := s2.kept kk11; have hk11 := hkC.tr kk11; have x11 := b11.h0; have y11 := b11.h1; have z11 := b11.h2))
  go_loopw [8, 9, 10] (fun vc vf vx wr => ∃ k : Nat, k ≤ N ∧ vx = .int .i64 ((k : Int) + 1) ∧ vc = .int .i64 (cntO G nn k : Nat) ∧ vf = .int .i64 (cntO G N k : Nat) ∧ ∃ m, wr = w11.drewN m) (fun _ _ vx _ => N + 1 - (intOf vx).toNat)
  case atStart => exact ⟨0, by omega, rfl, rfl, rfl, 0, rfl⟩
  case round =>
    obtain ⟨k, hk', rfl, rfl, rfl, m, rfl⟩ := hrel
    have ec : ((k + 1 : Nat) : Int) = (k : Int) + 1 := by omega
    have l1 := cntO_le G nn k
    have l2 := cntO_le G N k
    have u1 := cntO_succ G nn k
    have u2 := cntO_succ G N k
    rw [ec] at u1 u2
    have U1 := hid u1
    have U2 := hid u2
    obtain ⟨c0, hc0⟩ : ∃ c, c = cntO G nn k := ⟨_, rfl⟩
    obtain ⟨f0, hf0⟩ : ∃ c, c = cntO G N k := ⟨_, rfl⟩
    rw [← hc0] at l1 U1 ⊢
    rw [← hf0] at l2 U2 ⊢
    have HC0 := hid hc0
    have HF0 := hid hf0
    clear hc0 hf0 ec u1 u2
    by_cases hlt : k < N
    · have hZ : inn G.q ((k : Int) + 1) ≠ 0 := by
        have := HNI.out
        rw [inn_yes (by omega)]
        omega
      have HZ := hid hZ
      have j1 : (k : Int) + 1 < G.q := by have := HNI.out; omega
      obtain ⟨o, ho⟩ : ∃ o, o = ordG G ((k : Int) + 1) := ⟨_, rfl⟩
      have HOO : Hid (ordG G ((k : Int) + 1) = o) := hid ho.symm
      rw [← ho] at U1 U2
      have hqN : Hid (G.q - 1 = (N : Int)) := hid (by have := HNI.out; omega)
      clear ho hZ
      by_cases e1 : o = nn
      · have T1 : ((o : Int) == (nn : Int)) = true := by rw [e1]; simp
        have W1 : Hid ((c0 : Int) + 1 = ((cntO G nn (k + 1) : Nat) : Int)) := hid (by rw [U1.out, if_pos e1]; omega)
        clear e1
        by_cases e2 : o = N
        · have T2 : ((o : Int) == G.q - 1) = true := by rw [hqN.out, e2]; simp
          have W2 : Hid ((f0 : Int) + 1 = ((cntO G N (k + 1) : Nat) : Int)) := hid (by rw [U2.out, if_pos e2]; omega)
          clear e2
          go_wp2_with ((go_at_call 33; (with_reducible refine (mulOrder_ok b G ((k : Int) + 1) _ (by first | exact hg11 | exact hg11.drew | exact hg11.drewN _ | exact hg11.drew.drewN _) t2 HZ.out).mono ?_); rintro e w12 ⟨rfl, n12, rfl⟩; rw [HOO.out]))
          go_roundw
          case rel => exact ⟨k + 1, by omega, by go_num, val_int W1.out, val_int W2.out, by first | exact ⟨_, rfl⟩ | exact ⟨_, World.drewN_drewN _ _ _⟩⟩
          case measure => simp [intOf]; omega
        · have T2 : ((o : Int) == G.q - 1) = false := by rw [hqN.out]; simp; omega
          have W2 : Hid ((f0 : Int) = ((cntO G N (k + 1) : Nat) : Int)) := hid (by rw [U2.out, if_neg e2]; omega)
          clear e2
          go_wp2_with ((go_at_call 33; (with_reducible refine (mulOrder_ok b G ((k : Int) + 1) _ (by first | exact hg11 | exact hg11.drew | exact hg11.drewN _ | exact hg11.drew.drewN _) t2 HZ.out).mono ?_); rintro e w12 ⟨rfl, n12, rfl⟩; rw [HOO.out]))
          go_roundw
          case rel => exact ⟨k + 1, by omega, by go_num, val_int W1.out, val_int W2.out, by first | exact ⟨_, rfl⟩ | exact ⟨_, World.drewN_drewN _ _ _⟩⟩
          case measure => simp [intOf]; omega
      · have T1 : ((o : Int) == (nn : Int)) = false := by simp; omega
        have W1 : Hid ((c0 : Int) = ((cntO G nn (k + 1) : Nat) : Int)) := hid (by rw [U1.out, if_neg e1]; omega)
        clear e1
        by_cases e2 : o = N
        · have T2 : ((o : Int) == G.q - 1) = true := by rw [hqN.out, e2]; simp
          have W2 : Hid ((f0 : Int) + 1 = ((cntO G N (k + 1) : Nat) : Int)) := hid (by rw [U2.out, if_pos e2]; omega)
          clear e2
          go_wp2_with ((go_at_call 33; (with_reducible refine (mulOrder_ok b G ((k : Int) + 1) _ (by first | exact hg11 | exact hg11.drew | exact hg11.drewN _ | exact hg11.drew.drewN _) t2 HZ.out).mono ?_); rintro e w12 ⟨rfl, n12, rfl⟩; rw [HOO.out]))
          go_roundw
          case rel => exact ⟨k + 1, by omega, by go_num, val_int W1.out, val_int W2.out, by first | exact ⟨_, rfl⟩ | exact ⟨_, World.drewN_drewN _ _ _⟩⟩
          case measure => simp [intOf]; omega
        · have T2 : ((o : Int) == G.q - 1) = false := by rw [hqN.out]; simp; omega
          have W2 : Hid ((f0 : Int) = ((cntO G N (k + 1) : Nat) : Int)) := hid (by rw [U2.out, if_neg e2]; omega)
          clear e2
          go_wp2_with ((go_at_call 33; (with_reducible refine (mulOrder_ok b G ((k : Int) + 1) _ (by first | exact hg11 | exact hg11.drew | exact hg11.drewN _ | exact hg11.drew.drewN _) t2 HZ.out).mono ?_); rintro e w12 ⟨rfl, n12, rfl⟩; rw [HOO.out]))
          go_roundw
          case rel => exact ⟨k + 1, by omega, by go_num, val_int W1.out, val_int W2.out, by first | exact ⟨_, rfl⟩ | exact ⟨_, World.drewN_drewN _ _ _⟩⟩
          case measure => simp [intOf]; omega
    · have ek : k = N := by omega
      have HFP : Hid (0 < f0) := hid (by rw [HF0.out, ek]; exact hful)
      have fp : (0 : Int) < (f0 : Int) := by have := HFP.out; omega
      have hqN : Hid (G.q - 1 = (N : Int)) := hid (by have := HNI.out; omega)
      have jn : ¬ (k : Int) + 1 < G.q := by have := HNI.out; omega
      by_cases hd : nn ∣ N
      · have T : ((G.q - 1) % (nn : Int) != 0) = false := by
          obtain ⟨c, hc⟩ := hd
          rw [hqN.out, hc, Int.natCast_mul]; simp
        have HCE : Hid (cntC nn nn = c0) := hid (by rw [HC0.out, ek, HCN.out, if_pos hd])
        clear hd ek hlt
        go_wp2_with (go_at_call 34; (with_reducible refine (coprime_any nn _ n1 (by omega)).mono ?_); rintro e w13 ⟨rfl, n13, rfl⟩; rw [HCE.out])
        go_ret
        exact ⟨ret_bool (by simp; exact HFP.out), hk11.tr (kept_drewN _ _)⟩
      · have T : ((G.q - 1) % (nn : Int) != 0) = true := by
          rw [hqN.out]
          simp
          intro e
          exact hd (Int.natCast_dvd_natCast.1 (Int.dvd_of_emod_eq_zero e))
        have HCE : Hid (c0 = 0) := hid (by rw [HC0.out, ek, HCN.out, if_neg hd])
        have TC : ((c0 : Int) == 0) = true := by rw [HCE.out]; rfl
        clear hd ek hlt
        go_wp2_with (fail)
        go_ret
        exact ⟨ret_bool (by simp; exact HFP.out), hk11.tr (kept_drewN _ _)⟩
end Go.Proofs.Ytnmidgcmlkofjaa
