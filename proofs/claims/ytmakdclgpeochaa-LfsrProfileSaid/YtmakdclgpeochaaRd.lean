/- The walk of the reference's Check. No conditions. -/
import Derived.Test.YtmakdclgpeochaaRc
namespace Go.Proofs.Ytmakdclgpeochaa
open Go.RowKit Cw

set_option maxHeartbeats 1000000 in
theorem rCheck_any (P M : Int) (vm : Value) (mod : List Int) (w : World) (hvm : Sl w vm mod) (c : Int) (hc : (CheckP P M mod ∧ c = 0) ∨ (¬ CheckP P M mod ∧ c = 1)) :
    Calls Try.prog 32 #[.agg #[.int .i64 P, .int .i64 M, vm]] w fun e w' => e = .returned (.int .i64 c) ∧ Kept w w' := by
  have HR := hid hc
  clear hc
  have no : ¬ CheckP P M mod → c = 1 := fun h => by
    rcases HR.out with h1 | h1
    · exact absurd h1.1 h
    · exact h1.2
  have yes : CheckP P M mod → c = 0 := fun h => by
    rcases HR.out with h1 | h1
    · exact h1.2
    · exact absurd h h1.1
  have NO := hid no
  have YES := hid yes
  clear no yes HR
  have hk0 := kept_alloc w (.cells #[.int .i64 P, .int .i64 M, vm] 24)
  have hbx := boxF_new w P M vm 24
  have HS := hid hvm
  obtain ⟨a, cap, rfl, hcap, hcap2, hcc⟩ := hvm
  by_cases ho : ordS P M = 0
  · have hrf : c = 1 := NO.out (fun h => h.1.1 ho)
    subst hrf
    have Ho := hid ho
    clear ho
    go_enter Try.func32, Try.ntmps32
    go_wp2_with (go_at_call 49; refine (rOrder_any P M _ _).mono ?_; rintro e w1 ⟨rfl, k1⟩; rw [Ho.out])
    go_ret
    exact ⟨rfl, hk0.tr k1⟩
  obtain ⟨o1, o2, o3, o4, o5, o6⟩ := ordS_pos ho
  have t0 : (ordS P M == 0) = false := by simpa using ho
  have HO := hid ho
  have HO5 := hid o5
  clear o5 o6 ho
  obtain ⟨q, hq⟩ : ∃ q, q = ordS P M := ⟨_, rfl⟩
  rw [← hq] at t0
  have HQ := hid hq.symm
  clear hq
  by_cases hpr : Prm P
  case neg =>
    have hrf : c = 1 := NO.out (fun h => hpr h.1.2.1)
    subst hrf
    have Hpr := hid hpr
    clear hpr
    go_enter Try.func32, Try.ntmps32
    go_wp2_with (first
      | (go_at_call 49; refine (rOrder_any P M _ _).mono ?_; rintro e w1 ⟨rfl, k1⟩; rw [HQ.out]; rw [← HQ.out] at t0 ⊢; have bx1 := hbx.kept k1; have c0 := bx1.h0; have c1 := bx1.h1)
      | (go_at_call 50; refine (prime_any P _ o1 o2 false ⟨fun h => (by cases h), fun h => absurd h Hpr.out⟩).mono ?_; rintro e w2 ⟨rfl, n2, rfl⟩))
    go_ret
    exact ⟨rfl, (hk0.tr k1).drewN _⟩
  have Hpr := hid hpr
  clear hpr
  by_cases hM1 : M = 1
  · subst hM1
    by_cases hl0 : mod.length = 0
    · have hrt : c = 0 := YES.out ⟨⟨HO.out, Hpr.out, fun _ => List.eq_nil_of_length_eq_zero hl0, fun h => absurd rfl h⟩, fun h => absurd rfl h⟩
      subst hrt
      have tl : ((mod.length : Int) != 0) = false := by simp [hl0]
      clear hl0
      go_enter Try.func32, Try.ntmps32
      go_wp2_with (first
        | (go_at_call 49; refine (rOrder_any P 1 _ _).mono ?_; rintro e w1 ⟨rfl, k1⟩; rw [HQ.out]; have bx1 := hbx.kept k1; have c0 := bx1.h0; have c1 := bx1.h1; have c2 := bx1.h2)
        | (go_at_call 50; refine (prime_any P _ o1 o2 true ⟨fun _ => Hpr.out, fun _ => rfl⟩).mono ?_; rintro e w2 ⟨rfl, n2, rfl⟩))
      go_ret
      exact ⟨rfl, (hk0.tr k1).drewN _⟩
    · have hrf : c = 1 := NO.out (fun h => hl0 (by rw [h.1.2.2.1 rfl]; rfl))
      subst hrf
      have tl : ((mod.length : Int) != 0) = true := by rw [bne_iff_ne]; omega
      clear hl0
      go_enter Try.func32, Try.ntmps32
      go_wp2_with (first
        | (go_at_call 49; refine (rOrder_any P 1 _ _).mono ?_; rintro e w1 ⟨rfl, k1⟩; rw [HQ.out]; have bx1 := hbx.kept k1; have c0 := bx1.h0; have c1 := bx1.h1; have c2 := bx1.h2)
        | (go_at_call 50; refine (prime_any P _ o1 o2 true ⟨fun _ => Hpr.out, fun _ => rfl⟩).mono ?_; rintro e w2 ⟨rfl, n2, rfl⟩))
      go_ret
      exact ⟨rfl, (hk0.tr k1).drewN _⟩
  have tM : (M == 1) = false := by simpa using hM1
  by_cases hl : (mod.length : Int) = M
  case neg =>
    have hrf : c = 1 := NO.out (fun h => hl (h.1.2.2.2 hM1).1)
    subst hrf
    have tl : ((mod.length : Int) != M) = true := by simpa using hl
    clear hl hM1
    go_enter Try.func32, Try.ntmps32
    go_wp2_with (first
      | (go_at_call 49; refine (rOrder_any P M _ _).mono ?_; rintro e w1 ⟨rfl, k1⟩; rw [HQ.out]; have bx1 := hbx.kept k1; have c0 := bx1.h0; have c1 := bx1.h1; have c2 := bx1.h2)
      | (go_at_call 50; refine (prime_any P _ o1 o2 true ⟨fun _ => Hpr.out, fun _ => rfl⟩).mono ?_; rintro e w2 ⟨rfl, n2, rfl⟩))
    go_ret
    exact ⟨rfl, (hk0.tr k1).drewN _⟩
  have tl : ((mod.length : Int) != M) = false := by simpa using hl
  have hl8 : mod.length ≤ 8 := by omega
  have HPQ : Hid (P ^ mod.length ≤ 256) := hid (by have := HO5.out; rw [← hl] at this; simpa using this)
  have Hl := hid hl
  have HM1 := hid hM1
  clear hl hM1
  go_enter Try.func32, Try.ntmps32
  go_wp2_with (first
    | (go_at_call 49; refine (rOrder_any P M _ _).mono ?_; rintro e w1 ⟨rfl, k1⟩; rw [HQ.out]; have bx1 := hbx.kept k1; have c0 := bx1.h0; have c1 := bx1.h1; have c2 := bx1.h2)
    | (go_at_call 50; refine (prime_any P _ o1 o2 true ⟨fun _ => Hpr.out, fun _ => rfl⟩).mono ?_; rintro e w2 ⟨rfl, n2, rfl⟩))
  have hkA := (hk0.tr k1).drewN n2
  have bxA := bx1.drewN n2
  obtain ⟨wA, hwA⟩ : ∃ wA, wA = w1.drewN n2 := ⟨_, rfl⟩
  rw [← hwA] at hkA bxA ⊢
  clear hwA c0 c1 c2 bx1 k1 hk0 hbx
  go_loopw [3] (fun vi wr => ∃ k : Nat, k ≤ mod.length ∧ vi = .int .i64 k ∧ Hid (∀ i, i < k → 0 ≤ mod.getD i 0 ∧ mod.getD i 0 < P) ∧ ∃ n, wr = wA.drewN n) (fun vi _ => mod.length - (intOf vi).toNat)
  case atStart => exact ⟨0, by omega, rfl, hid (fun i hi => by omega), 0, rfl⟩
  case round =>
    obtain ⟨k, hk, rfl, hd, n, hw⟩ := hrel
    have hkw : Kept w wr := by rw [hw]; exact hkA.drewN n
    have bxw : BoxF wr w.heap.size P M (.slice a mod.length cap) := by rw [hw]; exact bxA.drewN n
    have HW := hid hw
    clear hw
    have c0 := bxw.h0
    have c1 := bxw.h1
    have c2 := bxw.h2
    by_cases hlt : k < mod.length
    · have hkM : (k : Int) < M := by rw [← Hl.out]; omega
      obtain ⟨b, off, rfl, hb, hcell⟩ := hcc (by intro e; rw [e] at hlt; simp at hlt)
      have hck := (hkw.cell' (b := b) (o := off + k) hb).trans (hcell k hlt)
      have hmem : mod.getD k 0 ∈ mod := by simp only [List.getD, List.getElem?_eq_getElem hlt, Option.getD_some]; exact List.getElem_mem _
      obtain ⟨z, hz⟩ : ∃ z, z = mod.getD k 0 := ⟨_, rfl⟩
      rw [← hz] at hck hmem
      have HZ := hid hz
      have HMEM := hid hmem
      clear hz hcell hmem hcc
      have j0 : (0 : Int) ≤ (k : Int) := by omega
      have j1 : (k : Int) < (mod.length : Int) := by omega
      by_cases hz0 : z < 0
      · have hrf : c = 1 := NO.out (fun h => by
          have := (h.1.2.2.2 HM1.out).2 z HMEM.out; omega)
        subst hrf
        go_wp2_with (fail)
        go_quiet (fail)
        go_wp2_with (fail)
        go_ret
        exact ⟨rfl, hkw.drewN _⟩
      · by_cases hzP : P ≤ z
        · have hrf : c = 1 := NO.out (fun h => by
            have := (h.1.2.2.2 HM1.out).2 z HMEM.out; omega)
          subst hrf
          go_wp2_with (fail)
          go_quiet (fail)
          go_wp2_with (fail)
          go_ret
          exact ⟨rfl, hkw.drewN _⟩
        · go_wp2_with (fail)
          go_quiet (fail)
          go_wp2_with (fail)
          go_roundw
          case rel => exact ⟨k + 1, by omega, by go_num, hid (fun i hi => by
            by_cases e : i = k
            · rw [e, ← HZ.out]; omega
            · exact hd.out i (by omega)), _, by rw [HW.out, World.drewN_drewN]⟩
          case measure => simp [intOf]; omega
    · have hkM : ¬ (k : Int) < M := by rw [← Hl.out]; omega
      have hdg : Digs P mod := fun y hy => by
        obtain ⟨i, hi, rfl⟩ := List.getElem_of_mem hy
        have := hd.out i (by omega)
        simpa only [List.getD, List.getElem?_eq_getElem hi, Option.getD_some] using this
      have hsh : Hid (ShapeP P M mod) := hid ⟨HO.out, Hpr.out, fun h => absurd h HM1.out, fun _ => ⟨Hl.out, hdg⟩⟩
      by_cases hirr : IrrP P mod
      · have hrt : c = 0 := YES.out ⟨hsh.out, fun _ => hirr⟩
        subst hrt
        have HI := hid hirr
        clear hirr
        go_wp2_with (go_at_call 51; refine (irreducible_any _ mod P _ (HS.out.kept hkw) o1 o2 hl8 hdg HPQ.out true ⟨fun _ => HI.out, fun _ => rfl⟩).mono ?_; rintro e w3 ⟨rfl, k3⟩)
        go_ret
        exact ⟨rfl, hkw.tr k3⟩
      · have hrf : c = 1 := NO.out (fun h => hirr (h.2 HM1.out))
        subst hrf
        have HI := hid hirr
        clear hirr
        go_wp2_with (go_at_call 51; refine (irreducible_any _ mod P _ (HS.out.kept hkw) o1 o2 hl8 hdg HPQ.out false ⟨fun h => (by cases h), fun h => absurd h HI.out⟩).mono ?_; rintro e w3 ⟨rfl, k3⟩)
        go_ret
        exact ⟨rfl, hkw.tr k3⟩
end Go.Proofs.Ytmakdclgpeochaa
