/- The walk of the reference's test of irreducibility. Conditions: a base from 2 to 256, two to eight coefficients, all of them digits, at most 256 elements. -/
import Derived.Test.YtmakdclgpeochaaRb
namespace Go.Proofs.Ytmakdclgpeochaa
open Go.RowKit Cw

set_option maxHeartbeats 1000000 in
theorem irreducible_any (vm : Value) (mod : List Int) (p : Int) (w : World) (hvm : Sl w vm mod) (hp : 2 ≤ p) (hp2 : p ≤ 256) (hm8 : mod.length ≤ 8) (hmd : Digs p mod) (hq : p ^ mod.length ≤ 256) (r : Bool) (hr : r = true ↔ IrrP p mod) :
    Calls Try.prog 51 #[vm, .int .i64 p] w fun e w' => e = .returned (.bool r) ∧ Kept w w' := by
  have HR := hid hr
  clear hr
  have HQ := hid hq
  clear hq
  obtain ⟨am, cm, rfl, hrest⟩ : ∃ a cap, vm = .slice a mod.length cap ∧ Hid (Sl w vm mod) := by
    obtain ⟨a, cap, h1, h2⟩ := hvm
    exact ⟨a, cap, h1, hid ⟨a, cap, h1, h2⟩⟩
  clear hvm
  go_enter Try.func51, Try.ntmps51
  go_wp2_with (fail)
  go_loopw [5, 6] (fun vc vd wr => ∃ (d : Nat) (c : Int), 1 ≤ d ∧ 2 * (d - 1) ≤ mod.length ∧ vd = .int .i64 d ∧ vc = .int .i64 c ∧ 1 ≤ c ∧ c ≤ 256 ∧ Hid (c = p ^ (d - 1)) ∧
    Hid (∀ d' : Nat, 1 ≤ d' → d' < d → 2 * d' ≤ mod.length → ∀ v : Nat, (v : Int) < p ^ d' → ¬ DivP p (digL p v d') mod) ∧ Kept w wr) (fun _ vd _ => mod.length + 1 - (intOf vd).toNat)
  case atStart => exact ⟨1, 1, by omega, by omega, rfl, rfl, by omega, by omega, hid (by simp), hid (fun d' h1 h2 => by omega), Kept.rfl' w⟩
  case round =>
    obtain ⟨d, c, hd1, hd2, rfl, rfl, hc1, hc2, hc, hall, hkw⟩ := hrel
    by_cases hlt : 2 * d ≤ mod.length
    · have hpd : p ^ d ≤ p ^ mod.length := pow_le (by omega) (by omega)
      have hpd1 : 1 ≤ p ^ d := Int.pow_pos (by omega)
      have hcp : c * p = p ^ d := by rw [hc.out, ← Int.pow_succ]; congr 1; omega
      have hq := HQ.out
      obtain ⟨q, hqe⟩ : ∃ q, q = c * p := ⟨_, rfl⟩
      have q1 : 1 ≤ q := by rw [hqe, hcp]; exact hpd1
      have q2 : q ≤ 256 := by rw [hqe, hcp]; omega
      have HQE : Hid (q = p ^ d) := hid (by rw [hqe, hcp])
      have q1' : 0 ≤ c * p := by omega
      have q2' : c * p ≤ 256 := by omega
      clear hpd hpd1 hcp hq
      have hltI : 2 * (d : Int) ≤ (mod.length : Int) := by omega
      go_wp2_with (fail)
      rw [← hqe]
      clear hqe q1' q2'
      obtain ⟨qn, rfl⟩ := Int.eq_ofNat_of_zero_le (show 0 ≤ q by omega)
      go_loopw [7] (fun vv wr => ∃ v : Nat, v ≤ qn ∧ vv = .int .i64 v ∧ Hid (∀ v' : Nat, v' < v → ¬ DivP p (digL p v' d) mod) ∧ Kept w wr) (fun vv _ => qn - (intOf vv).toNat)
      case atStart => exact ⟨0, by omega, rfl, hid (fun v' h => by omega), hkw⟩
      case round =>
        obtain ⟨v, hv, rfl, hno, hkw⟩ := hrel
        by_cases hvq : v < qn
        · have hsl := hrest.out.kept hkw
          obtain ⟨rr, hrr⟩ : ∃ rr : Bool, rr = true ↔ DivP p (digL p v d) mod := by
            by_cases h : DivP p (digL p v d) mod
            · exact ⟨true, by simp [h]⟩
            · exact ⟨false, by simp [h]⟩
          have HRR := hid hrr
          have hdl : (digL p v d).length = d := length_digL _ _ _
          have HDL := hid hdl
          have hdd : Digs p (digL p v d) := digs_digL (by omega) d
          clear hrr hdl
          cases rr with
          | true =>
            have HT : Hid (DivP p (digL p v d) mod) := hid (HRR.out.1 rfl)
            clear HRR
            have hrf : r = false := by
              cases r
              · rfl
              · exact absurd HT.out (HR.out.1 rfl d hd1 hlt v (by rw [← HQE.out]; omega))
            subst hrf
            go_wp2_with (first
              | (go_at_call 59; (with_reducible refine (rdigits_any (v : Int) p d _ (by omega) (by omega) (by omega) hp2 (by omega)).mono ?_); rintro e w1 ⟨rfl, ho1, hk1⟩)
              | (go_at_call 65; (with_reducible refine (divides_any _ _ (digL p v d) mod p _ ho1.sl (hsl.kept hk1) hp hp2 (by rw [HDL.out]; omega) (by rw [HDL.out]; omega) hm8 hdd hmd true ⟨fun _ => HT.out, fun _ => rfl⟩).mono ?_); rintro e w2 ⟨rfl, hk2⟩))
            go_ret
            exact ⟨rfl, (hkw.tr hk1).tr hk2⟩
          | false =>
            have HF : Hid (¬ DivP p (digL p v d) mod) := hid (fun h => by have := HRR.out.2 h; cases this)
            clear HRR
            go_wp2_with (first
              | (go_at_call 59; (with_reducible refine (rdigits_any (v : Int) p d _ (by omega) (by omega) (by omega) hp2 (by omega)).mono ?_); rintro e w1 ⟨rfl, ho1, hk1⟩)
              | (go_at_call 65; (with_reducible refine (divides_any _ _ (digL p v d) mod p _ ho1.sl (hsl.kept hk1) hp hp2 (by rw [HDL.out]; omega) (by rw [HDL.out]; omega) hm8 hdd hmd false ⟨fun h => (by cases h), fun h => absurd h HF.out⟩).mono ?_); rintro e w2 ⟨rfl, hk2⟩))
            go_roundw
            case rel => exact ⟨v + 1, by omega, by go_num, hid (fun v' h hdv => by
              by_cases e : v' = v
              · rw [e] at hdv; exact HF.out hdv
              · exact hno.out v' (by omega) hdv), (hkw.tr hk1).tr hk2⟩
            case measure => simp [intOf]; omega
        · have ev : v = qn := by omega
          have hno' : Hid (∀ v' : Nat, (v' : Int) < p ^ d → ¬ DivP p (digL p v' d) mod) := hid (fun v' h => hno.out v' (by rw [← HQE.out] at h; omega))
          clear hno
          go_wp2_with (fail)
          go_roundw
          case rel => exact ⟨d + 1, qn, by omega, by omega, by go_num, rfl, by omega, by omega, hid (by rw [HQE.out]; rfl), hid (fun d' h1 h2 h3 => by
            by_cases e : d' = d
            · rw [e]; exact hno'.out
            · exact hall.out d' h1 (by omega) h3), hkw⟩
          case measure => simp [intOf]; omega
    · have hrt : r = true := HR.out.2 (fun d' h1 h2 v hv => hall.out d' h1 (by omega) h2 v hv)
      subst hrt
      go_wp2_with (fail)
      go_ret
      exact ⟨rfl, hkw⟩
end Go.Proofs.Ytmakdclgpeochaa
