/- The walk of the laws' same: two lists are equal. No conditions. -/
import Derived.Test.YtmakdclgpeochaaRa
namespace Go.Proofs.Ytmakdclgpeochaa
open Go.RowKit Cw

set_option maxHeartbeats 800000 in
theorem sameL_any (v v' : Value) (l l' : List Int) (w : World) (hv : Sl w v l) (hv' : Sl w v' l') (r : Bool) (hr : r = true ↔ l = l') :
    Calls Try.prog 19 #[v, v'] w fun e w' => e = .returned (.bool r) ∧ ∃ m, w' = w.drewN m := by
  obtain ⟨a, cap, rfl, hcap, ⟨hcm, _⟩, hc⟩ := hv
  obtain ⟨a', cap', rfl, hcap', ⟨hcm', _⟩, hc'⟩ := hv'
  unfold maxLen at hcm hcm'
  have HR := hid hr
  clear hr
  by_cases hL : l.length = l'.length
  case neg =>
    have hrf : r = false := by
      cases r
      · rfl
      · exact absurd (by rw [HR.out.1 rfl]) hL
    subst hrf
    have tL : ((l.length : Int) != (l'.length : Int)) = true := by simp; omega
    clear hL
    go_enter Try.func19, Try.ntmps19
    go_wp2_with (fail)
    go_ret
    exact ⟨rfl, 0, rfl⟩
  have tL : ((l.length : Int) != (l'.length : Int)) = false := by simp; omega
  have HL := hid hL
  have hl0 : ∀ k, k < l.length → l' ≠ [] := fun k hk e => by rw [e] at hL; simp at hL; rw [hL] at hk; simp at hk
  rw [← hL] at hcap' hc' tL
  rw [← hL]
  clear hL
  go_enter Try.func19, Try.ntmps19
  go_wp2_with (fail)
  go_loopw [13] (fun vi wr => ∃ k : Nat, k ≤ l.length ∧ vi = .int .i64 k ∧ Hid (∀ i, i < k → l.getD i 0 = l'.getD i 0) ∧ ∃ n, wr = w.drewN n) (fun vi _ => l.length - (intOf vi).toNat)
  case atStart => exact ⟨0, by omega, rfl, hid (fun i hi => by omega), 0, rfl⟩
  case round =>
    obtain ⟨k, hkl, rfl, hd, n, rfl⟩ := hrel
    by_cases hlt : k < l.length
    · obtain ⟨b, off, rfl, hb, hcell⟩ := hc (by intro e; rw [e] at hlt; simp at hlt)
      obtain ⟨b', off', rfl, hb', hcell'⟩ := hc' (hl0 k hlt)
      have e0 := hcell k hlt
      have e1 := hcell' k hlt
      obtain ⟨z, hz⟩ : ∃ z, z = l.getD k 0 := ⟨_, rfl⟩
      obtain ⟨z', hz'⟩ : ∃ z, z = l'.getD k 0 := ⟨_, rfl⟩
      rw [← hz] at e0
      rw [← hz'] at e1
      have HZ := hid hz
      have HZ' := hid hz'
      clear hc hc' hl0 hz hz' hcell hcell'
      by_cases hzz : z = z'
      · have tz : (z != z') = false := by simpa using hzz
        have HZZ := hid hzz
        clear hzz
        go_wp2_with (fail)
        go_quiet (fail)
        go_wp2_with (fail)
        go_roundw
        case rel => exact ⟨k + 1, by omega, by go_num, hid (fun i hi => by
          by_cases e : i = k
          · rw [e, ← HZ.out, ← HZ'.out, HZZ.out]
          · exact hd.out i (by omega)), by first | exact ⟨_, rfl⟩ | exact ⟨_, World.drewN_drewN _ _ _⟩⟩
        case measure => simp [intOf]; omega
      · have hrf : r = false := by
          cases r
          · rfl
          · exact absurd (by rw [HZ'.out, HZ.out, HR.out.1 rfl]) hzz
        subst hrf
        have tz : (z != z') = true := by simpa using hzz
        clear hzz
        go_wp2_with (fail)
        go_quiet (fail)
        go_wp2_with (fail)
        go_ret
        exact ⟨rfl, by first | exact ⟨_, rfl⟩ | exact ⟨_, World.drewN_drewN _ _ _⟩⟩
    · have hrt : r = true := HR.out.2 (list_eq_of HL.out (fun i hi => hd.out i (by omega)))
      subst hrt
      go_wp2_with (fail)
      go_ret
      exact ⟨rfl, _, rfl⟩
end Go.Proofs.Ytmakdclgpeochaa
