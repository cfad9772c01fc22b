/- The walk of the reference's Same. No conditions. -/
import Derived.Test.YtnmidgcmlkofjaaSa
namespace Go.Proofs.Ytnmidgcmlkofjaa
open Go.RowKit Cw

set_option maxHeartbeats 1000000 in
theorem rSame_any (P M : Int) (vm : Value) (mod : List Int) (P' M' : Int) (vm' : Value) (mod' : List Int) (w : World) (hvm : Sl w vm mod) (hvm' : Sl w vm' mod') (r : Bool) (hr : r = true ↔ P = P' ∧ M = M' ∧ mod = mod') :
    Calls Try.prog 27 #[.agg #[.int .i64 P, .int .i64 M, vm], .agg #[.int .i64 P', .int .i64 M', vm']] w fun e w' => e = .returned (.bool r) ∧ Kept w w' := by
  have HR := hid hr
  clear hr
  have hk0 := kept_alloc w (.cells #[.int .i64 P, .int .i64 M, vm] 24)
  have hk1 := kept_alloc (w.alloc (.cells #[.int .i64 P, .int .i64 M, vm] 24)) (.cells #[.int .i64 P', .int .i64 M', vm'] 24)
  have hk := hk0.tr hk1
  have bx0 := (boxF_new w P M vm 24).kept hk1
  have bx1 := boxF_new (w.alloc (.cells #[.int .i64 P, .int .i64 M, vm] 24)) P' M' vm' 24
  clear hk0 hk1
  obtain ⟨a, cap, rfl, hcap, ⟨hcm, _⟩, hc⟩ := hvm
  obtain ⟨a', cap', rfl, hcap', ⟨hcm', _⟩, hc'⟩ := hvm'
  unfold maxLen at hcm hcm'
  have c0 := bx0.h0
  have c1 := bx0.h1
  have c2 := bx0.h2
  have d0 := bx1.h0
  have d1 := bx1.h1
  have d2 := bx1.h2
  clear bx0 bx1
  by_cases hP : P = P'
  case neg =>
    have hrf : r = false := by
      cases r
      · rfl
      · exact absurd (HR.out.1 rfl).1 hP
    subst hrf
    have tP : (P != P') = true := by simpa using hP
    clear hP
    go_enter Try.func27, Try.ntmps27
    go_wp2_with (fail)
    go_ret
    exact ⟨rfl, hk⟩
  have tP : (P != P') = false := by simpa using hP
  by_cases hM : M = M'
  case neg =>
    have hrf : r = false := by
      cases r
      · rfl
      · exact absurd (HR.out.1 rfl).2.1 hM
    subst hrf
    have tM : (M != M') = true := by simpa using hM
    clear hM hP
    go_enter Try.func27, Try.ntmps27
    go_wp2_with (fail)
    go_ret
    exact ⟨rfl, hk⟩
  have tM : (M != M') = false := by simpa using hM
  by_cases hL : mod.length = mod'.length
  case neg =>
    have hrf : r = false := by
      cases r
      · rfl
      · exact absurd (by rw [(HR.out.1 rfl).2.2]) hL
    subst hrf
    have tL : ((mod.length : Int) != (mod'.length : Int)) = true := by simp; omega
    clear hM hP hL
    go_enter Try.func27, Try.ntmps27
    go_wp2_with (fail)
    go_ret
    exact ⟨rfl, hk⟩
  have tL : ((mod.length : Int) != (mod'.length : Int)) = false := by simp; omega
  have HR2 : Hid (r = true ↔ mod = mod') := hid ⟨fun h => (HR.out.1 h).2.2, fun h => HR.out.2 ⟨hP, hM, h⟩⟩
  have HL := hid hL
  have hc2 : ∀ k, k < mod.length → mod' ≠ [] := fun k hk e => by rw [e] at hL; simp at hL; rw [hL] at hk; simp at hk
  rw [← hL] at hcap' hc' c0 c1 c2 d0 d1 d2 hk tL ⊢
  clear hM hP HR hL
  go_enter Try.func27, Try.ntmps27
  go_wp2_with (fail)
  obtain ⟨w0, hw0⟩ : ∃ w0, w0 = (w.alloc (.cells #[.int .i64 P, .int .i64 M, .slice a mod.length cap] 24)).alloc (.cells #[.int .i64 P', .int .i64 M', .slice a' mod.length cap'] 24) := ⟨_, rfl⟩
  have hs : (w.alloc (.cells #[.int .i64 P, .int .i64 M, .slice a mod.length cap] 24)).heap.size = w.heap.size + 1 := by simp
  rw [hs] at d0 d1 d2
  rw [← hw0] at c0 c1 c2 d0 d1 d2 hk ⊢
  clear hw0 hs
  go_loopw [5] (fun vi wr => ∃ k : Nat, k ≤ mod.length ∧ vi = .int .i64 k ∧ Hid (∀ i, i < k → mod.getD i 0 = mod'.getD i 0) ∧ ∃ n, wr = w0.drewN n) (fun vi _ => mod.length - (intOf vi).toNat)
  case atStart => exact ⟨0, by omega, rfl, hid (fun i hi => by omega), 0, rfl⟩
  case round =>
    obtain ⟨k, hkl, rfl, hd, n, hw⟩ := hrel
    have hkw : Kept w wr := by rw [hw]; exact hk.drewN n
    have hcw : ∀ a, wr.cell? a = w0.cell? a := fun a => by rw [hw]; rfl
    rw [← hcw] at c0 c1 c2 d0 d1 d2
    have HW := hid hw
    clear hw hcw
    by_cases hlt : k < mod.length
    · obtain ⟨b, off, rfl, hb, hcell⟩ := hc (by intro e; rw [e] at hlt; simp at hlt)
      obtain ⟨b', off', rfl, hb', hcell'⟩ := hc' (hc2 k hlt)
      have e0 := (hkw.cell' (b := b) (o := off + k) hb).trans (hcell k hlt)
      have e1 := (hkw.cell' (b := b') (o := off' + k) hb').trans (hcell' k hlt)
      obtain ⟨z, hz⟩ : ∃ z, z = mod.getD k 0 := ⟨_, rfl⟩
      obtain ⟨z', hz'⟩ : ∃ z, z = mod'.getD k 0 := ⟨_, rfl⟩
      rw [← hz] at e0
      rw [← hz'] at e1
      have HZ := hid hz
      have HZ' := hid hz'
      clear hc hc' hc2
      clear hz hz' hcell hcell'
      have j0 : (0 : Int) ≤ (k : Int) := by omega
      have j1 : (k : Int) < (mod.length : Int) := by omega
      by_cases hzz : z = z'
      · have tz : (z != z') = false := by simpa using hzz
        have HZZ := hid hzz
        clear hzz
        go_wp2_with (fail)
        go_quiet (fail)
        go_wp2_with (fail)
        go_roundw
        case rel => exact ⟨k + 1, by omega, by go_num, hid (fun i hi => by
          by_cases e : i = k
          · rw [e, ← HZ.out, ← HZ'.out, HZZ.out]
          · exact hd.out i (by omega)), _, by rw [HW.out, World.drewN_drewN]⟩
        case measure => simp [intOf]; omega
      · have hrf : r = false := by
          cases r
          · rfl
          · exact absurd (by rw [HZ'.out, HZ.out, HR2.out.1 rfl]) hzz
        subst hrf
        have tz : (z != z') = true := by simpa using hzz
        clear hzz
        go_wp2_with (fail)
        go_quiet (fail)
        go_wp2_with (fail)
        go_ret
        exact ⟨rfl, hkw.drewN _⟩
    · have hrt : r = true := HR2.out.2 (list_eq_of HL.out (fun i hi => hd.out i (by omega)))
      subst hrt
      go_wp2_with (fail)
      go_ret
      exact ⟨rfl, hkw⟩
end Go.Proofs.Ytnmidgcmlkofjaa
