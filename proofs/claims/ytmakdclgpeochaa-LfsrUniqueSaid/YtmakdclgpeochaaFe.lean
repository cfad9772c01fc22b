/- The walks of shape, Check and Same. No conditions. -/
import Derived.Test.YtmakdclgpeochaaFd
namespace Go.Proofs.Ytmakdclgpeochaa
open Go.RowKit Cw

set_option maxHeartbeats 1000000 in
theorem shape_any (P M : Int) (vm : Value) (mod : List Int) (w : World) (hvm : Sl w vm mod) (r : Bool) (hr : r = true ↔ ShapeP P M mod) :
    Calls Try.prog 52 #[.agg #[.int .i64 P, .int .i64 M, vm]] w fun e w' => e = .returned (.bool r) ∧ Kept w w' := by
  have HR := hid hr
  clear hr
  have hk0 := kept_alloc w (.cells #[.int .i64 P, .int .i64 M, vm] 24)
  obtain ⟨a, cap, rfl, hcap, hcap2, hc⟩ := hvm
  by_cases ho : ordS P M = 0
  · have hrf : r = false := by
      cases r
      · rfl
      · exact absurd ho (HR.out.1 rfl).1
    subst hrf
    have Ho := hid ho
    clear ho
    go_enter Try.func52, Try.ntmps52
    go_wp2_with (go_at_call 53; refine (order_any P M _).mono ?_; rintro e w1 ⟨rfl, n1, rfl⟩; rw [Ho.out])
    go_ret
    exact ⟨rfl, hk0.drewN _⟩
  obtain ⟨o1, o2, o3, o4, o5, o6⟩ := ordS_pos ho
  have t0 : (ordS P M == 0) = false := by simpa using ho
  have HO5 := hid o5
  have HO6 := hid o6
  clear o5 o6
  by_cases hpr : Prm P
  case neg =>
    have hrf : r = false := by
      cases r
      · rfl
      · exact absurd (HR.out.1 rfl).2.1 hpr
    subst hrf
    have Hpr := hid hpr
    clear hpr
    go_enter Try.func52, Try.ntmps52
    go_wp2_with (first
      | (go_at_call 53; refine (order_any P M _).mono ?_; rintro e w1 ⟨rfl, n1, rfl⟩)
      | (go_at_call 66; refine (isPrime_no P _ Hpr.out o2).mono ?_; rintro e w1 ⟨rfl, n2, rfl⟩))
    go_ret
    exact ⟨rfl, hk0.drewN _⟩
  have Hpr := hid hpr
  clear hpr
  by_cases hM1 : M = 1
  · subst hM1
    have hrm : r = decide (mod.length = 0) := by
      rw [Bool.eq_iff_iff, HR.out]
      simp only [decide_eq_true_eq]
      exact ⟨fun h => by rw [h.2.2.1 rfl]; rfl, fun h => ⟨ho, Hpr.out, fun _ => List.eq_nil_of_length_eq_zero h, fun h => absurd rfl h⟩⟩
    have HRM := hid hrm
    clear hrm
    go_enter Try.func52, Try.ntmps52
    go_wp2_with (first
      | (go_at_call 53; refine (order_any P 1 _).mono ?_; rintro e w1 ⟨rfl, n1, rfl⟩)
      | (go_at_call 66; refine (isPrime_yes P _ Hpr.out o2).mono ?_; rintro e w1 ⟨rfl, n2, rfl⟩))
    go_ret
    exact ⟨ret_bool (by rw [HRM.out, Bool.eq_iff_iff]; simp), hk0.drewN _⟩
  have tM : (M == 1) = false := by simpa using hM1
  by_cases hl : (mod.length : Int) = M
  case neg =>
    have hrf : r = false := by
      cases r
      · rfl
      · exact absurd ((HR.out.1 rfl).2.2.2 hM1).1 hl
    subst hrf
    have tl : ((mod.length : Int) != M) = true := by simpa using hl
    clear hl hM1
    go_enter Try.func52, Try.ntmps52
    go_wp2_with (first
      | (go_at_call 53; refine (order_any P M _).mono ?_; rintro e w1 ⟨rfl, n1, rfl⟩)
      | (go_at_call 66; refine (isPrime_yes P _ Hpr.out o2).mono ?_; rintro e w1 ⟨rfl, n2, rfl⟩))
    go_ret
    exact ⟨rfl, hk0.drewN _⟩
  have tl : ((mod.length : Int) != M) = false := by simpa using hl
  have hl8 : mod.length ≤ 8 := by omega
  have Hrd : Hid (r = true ↔ Digs P mod) := hid ⟨fun h => ((HR.out.1 h).2.2.2 hM1).2, fun h => HR.out.2 ⟨ho, Hpr.out, fun h => absurd h hM1, fun _ => ⟨hl, h⟩⟩⟩
  clear hl hM1 HR
  go_enter Try.func52, Try.ntmps52
  go_wp2_with (first
    | (go_at_call 53; refine (order_any P M _).mono ?_; rintro e w1 ⟨rfl, n1, rfl⟩)
    | (go_at_call 66; refine (isPrime_yes P _ Hpr.out o2).mono ?_; rintro e w1 ⟨rfl, n2, rfl⟩))
  go_loop [33] (fun vi => ∃ k : Nat, k ≤ mod.length ∧ vi = .int .i64 k ∧ Hid (∀ i, i < k → 0 ≤ mod.getD i 0 ∧ mod.getD i 0 < P)) (fun vi => mod.length - (intOf vi).toNat)
  case atStart => exact ⟨0, by omega, rfl, hid (fun i hi => by omega)⟩
  case round =>
    obtain ⟨k, hk, rfl, hd⟩ := hrel
    by_cases hlt : k < mod.length
    · obtain ⟨b, off, rfl, hb, hcell⟩ := hc (by intro e; rw [e] at hlt; simp at hlt)
      have hck := hcell k hlt
      have hmem : mod.getD k 0 ∈ mod := by simp only [List.getD, List.getElem?_eq_getElem hlt, Option.getD_some]; exact List.getElem_mem _
      obtain ⟨z, hz⟩ : ∃ z, z = mod.getD k 0 := ⟨_, rfl⟩
      rw [← hz] at hck hmem
      have HZ := hid hz
      clear hz hcell
      have hbx := boxF_new w P M (.slice (some ⟨b, off, none⟩) mod.length cap) 24
      have c0 := hbx.h0
      have hck' := (hk0.cell' (b := b) (o := off + k) hb).trans hck
      have hk0' := hk0
      clear hk0 hck hbx
      by_cases hz0 : z < 0
      · have hrf : r = false := by
          cases r
          · rfl
          · have := (Hrd.out.1 rfl) z hmem; omega
        subst hrf
        go_wp2_with (fail)
        go_ret
        exact ⟨rfl, hk0'.drewN _⟩
      · by_cases hzP : P ≤ z
        · have hrf : r = false := by
            cases r
            · rfl
            · have := (Hrd.out.1 rfl) z hmem; omega
          subst hrf
          go_wp2_with (fail)
          go_ret
          exact ⟨rfl, hk0'.drewN _⟩
        · go_wp2_with (fail)
          go_round
          case rel => exact ⟨k + 1, by omega, by go_num, hid (fun i hi => by
            by_cases e : i = k
            · rw [e, ← HZ.out]; omega
            · exact hd.out i (by omega))⟩
          case measure => simp [intOf]; omega
    · have hrt : r = true := Hrd.out.2 (fun y hy => by
        obtain ⟨i, hi, rfl⟩ := List.getElem_of_mem hy
        have := hd.out i (by omega)
        simpa only [List.getD, List.getElem?_eq_getElem hi, Option.getD_some] using this)
      subst hrt
      go_wp2_with (fail)
      go_ret
      exact ⟨rfl, hk0.drewN _⟩
end Go.Proofs.Ytmakdclgpeochaa
