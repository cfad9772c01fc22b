/- The walks of the reference's Inv of elements, and of Power and Mul of polynomials. Conditions: a field's description; lengths are bounded. -/
import Derived.Test.YtmakdclgpeochaaQb
import Derived.Deep.RegionHeld3
namespace Go.Proofs.Ytmakdclgpeochaa
open Go.RowKit Cw

theorem inv_is {G : GFd} (t : Tabs G) {x : Int} {k : Nat} (hk : (k : Int) < G.q) (h : mulG G x k = 1) : (k : Int) = invG G x := by
  have h1 := congrArg t.e h
  rw [t.e_mul, t.e_one] at h1
  have hx : inn G.q x ≠ 0 := fun e => by
    rw [t.e_nz.2 e, Rg.zero_mul] at h1
    exact Fd.one_ne h1.symm
  refine t.e_eq ⟨by omega, hk⟩ (t.inv_bd x) ?_
  rw [t.e_invG hx]
  exact Fd.inv_unique h1
theorem inv_no {G : GFd} (t : Tabs G) {x : Int} {k : Nat} (hk : G.q ≤ (k : Int)) (h : ∀ y : Nat, 1 ≤ y → y < k → mulG G x y ≠ 1) : invG G x = 0 := by
  by_cases hx : inn G.q x = 0
  · unfold invG; rw [if_pos hx]
  · exfalso
    have hb := t.inv_bd x
    have hz := t.inv_nz hx
    rw [inn_yes hb] at hz
    obtain ⟨y, hy⟩ := Int.eq_ofNat_of_zero_le hb.1
    refine h y (by omega) (by omega) ?_
    rw [← hy]
    refine t.e_eq (t.mul_bd _ _) ⟨by omega, by have := t.qb; omega⟩ ?_
    rw [t.e_mul, t.e_invG hx, t.e_one]
    exact Fd.mul_inv _ (fun e => hx (t.e_nz.1 e))
set_option maxRecDepth 100000 in
set_option maxHeartbeats 2000000 in
theorem rInv_p (G : GFd) (t : Tabs G) (P M : Int) (mod : List Int) (vm : Value) (x : Int) (w : World) (ho : Hid (Of G P M mod)) (hvm : Sl w vm mod) :
    Calls Try.prog 58 #[.agg #[.int .i64 P, .int .i64 M, vm], .int .i64 x] w fun e w' => e = .returned (.int .i64 (invG G x)) ∧ Kept w w' := by
  have hk0 := kept_alloc w (.cells #[.int .i64 P, .int .i64 M, vm] 24)
  have hbx := boxF_new w P M vm 24
  have smv := hvm.kept hk0
  have HZ1 : (w.alloc (.cells #[.int .i64 P, .int .i64 M, vm] 24)).heap.size = w.heap.size + 1 := by simp
  have HZ1 := hid HZ1
  obtain ⟨w1, hw1⟩ : ∃ w1, w1 = w.alloc (.cells #[.int .i64 P, .int .i64 M, vm] 24) := ⟨_, rfl⟩
  rw [← hw1] at hk0 hbx smv HZ1
  obtain ⟨q1, q2, q3, q4, q5, q6, q7⟩ := t.qb
  have HQ : Hid (ordS P M = G.q) := hid (by rw [← ho.out.1, ← ho.out.2.1, ← t.hq])
  clear q3 q4 q5 q6 q7
  go_enter Try.func58, Try.ntmps58
  go_wp2_with (fail)
  rw [← hw1]
  clear hw1
  go_loopw [5] (fun vi wr => ∃ k : Nat, 1 ≤ k ∧ (k : Int) ≤ G.q ∧ vi = .int .i64 k ∧ Hid (∀ y : Nat, 1 ≤ y → y < k → mulG G x y ≠ 1) ∧ Kept w1 wr) (fun vi _ => (G.q - intOf vi).toNat)
  case atStart => exact ⟨1, by omega, by omega, rfl, hid (fun y h1 h2 => by omega), Kept.rfl' _⟩
  case round =>
    obtain ⟨k, hk1, hkq, rfl, hno, hkw⟩ := hrel
    have hbw := hbx.kept hkw
    have c0 := hbw.h0
    have c1 := hbw.h1
    have c2 := hbw.h2
    have smw := smv.kept hkw
    by_cases hlt : (k : Int) < G.q
    · obtain ⟨m, hm⟩ : ∃ m, m = mulG G x k := ⟨_, rfl⟩
      have HM : Hid (mulG G x k = m) := hid hm.symm
      by_cases h1 : m = 1
      · subst h1
        have HI := hid (inv_is t hlt hm.symm)
        clear hm
        go_wp2_with (first
          | (go_at_call 49; (with_reducible refine (rOrder_any P M vm _).mono ?_); rintro e w3 ⟨rfl, k3⟩; rw [HQ.out]; have b3 := hbw.kept k3; have d0 := b3.h0; have d1 := b3.h1; have d2 := b3.h2)
          | (go_at_call 24; (with_reducible refine (rMul_field G t P M mod vm x k _ ho.out (smw.kept k3)).mono ?_); rintro e w4 ⟨rfl, k4⟩; rw [HM.out]))
        go_ret
        exact ⟨ret_int HI.out, hk0.tr (hkw.tr (k3.tr k4))⟩
      · have tm : (m == 1) = false := by simpa using h1
        have hno' : Hid (∀ y : Nat, 1 ≤ y → y < k + 1 → mulG G x y ≠ 1) := hid (fun y h2 h3 => by
          by_cases e : y = k
          · subst e; rw [← hm]; exact h1
          · exact hno.out y h2 (by omega))
        clear hm h1
        go_wp2_with (first
          | (go_at_call 49; (with_reducible refine (rOrder_any P M vm _).mono ?_); rintro e w3 ⟨rfl, k3⟩; rw [HQ.out]; have b3 := hbw.kept k3; have d0 := b3.h0; have d1 := b3.h1; have d2 := b3.h2)
          | (go_at_call 24; (with_reducible refine (rMul_field G t P M mod vm x k _ ho.out (smw.kept k3)).mono ?_); rintro e w4 ⟨rfl, k4⟩; rw [HM.out]))
        go_roundw
        case rel => exact ⟨k + 1, by omega, by omega, by go_num, hno', hkw.tr (k3.tr k4)⟩
        case measure => simp [intOf]; omega
    · have hge : G.q ≤ (k : Int) := by omega
      have HI := hid (inv_no t hge hno.out)
      go_wp2_with (first
          | (go_at_call 49; (with_reducible refine (rOrder_any P M vm _).mono ?_); rintro e w3 ⟨rfl, k3⟩; rw [HQ.out]; have b3 := hbw.kept k3; have d0 := b3.h0; have d1 := b3.h1; have d2 := b3.h2))
      go_ret
      exact ⟨ret_int HI.out.symm, hk0.tr (hkw.tr k3)⟩
theorem pl_power {G : GFd} (t : Tabs G) (n : Nat) : t.pl ((List.replicate (n + 1) 0).set n 1) = Pl.x n ∧ Cano G ((List.replicate (n + 1) 0).set n 1) := by
  have hl : n < (List.replicate (n + 1) (0 : Int)).length := by simp
  have hq := t.qb
  have hat : ∀ i, ((List.replicate (n + 1) (0 : Int)).set n 1).getD i 0 = if i = n then 1 else 0 := fun i => by
    by_cases e : i = n
    · subst e; rw [ldset_eq _ hl, if_pos rfl]
    · rw [ldset_ne _ (fun h => e h.symm), if_neg e]
      by_cases hi : i < n + 1
      · simp [hi]
      · rw [ld_out (by simp; omega)]
  refine ⟨Pl.ext (PS.ext fun i => ?_), fun x hx => ?_, fun _ => ?_⟩
  · rw [Pl.x_at, t.pl_at, hat]
    split
    · exact t.e_one
    · exact t.e_zero
  · obtain ⟨i, hi, rfl⟩ := List.getElem_of_mem hx
    have h := hat i
    rw [List.getD, List.getElem?_eq_getElem hi, Option.getD_some] at h
    rw [h]
    split <;> omega
  · rw [hat, List.length_set, List.length_replicate, if_pos (by omega)]; omega
end Go.Proofs.Ytmakdclgpeochaa
