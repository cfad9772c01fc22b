/- The walks of the reference's Canon and Degree. Conditions: a field's description; the length is bounded. -/
import Derived.Test.YtmakdclgpeochaaKa
import Derived.Test.YtmakdclgpeochaaRg
import Derived.Deep.RegionHeld3
namespace Go.Proofs.Ytmakdclgpeochaa
open Go.RowKit Cw

set_option maxRecDepth 100000 in
set_option maxHeartbeats 2000000 in
theorem rCanon_any (G : GFd) (t : Tabs G) (P M : Int) (mod : List Int) (vm v : Value) (p : List Int) (w : World) (ho : Hid (Of G P M mod)) (hv : Sl w v p) (hl : p.length ≤ 1000000) :
    Calls Try.prog 20 #[.agg #[.int .i64 P, .int .i64 M, vm], v] w (OutV G t (t.po p) p.length w) := by
  have hk0 := kept_alloc w (.cells #[.int .i64 P, .int .i64 M, vm] 24)
  have hbx := boxF_new w P M vm 24
  have q0 : 0 < G.q := by have := t.qb; omega
  have Q0 := hid q0
  clear q0
  have HQ : Hid (ordS P M = G.q) := hid (by rw [← ho.out.1, ← ho.out.2.1, ← t.hq])
  obtain ⟨a, cap, rfl, hcap, ⟨hcm, _⟩, hc⟩ := hv.kept hk0
  unfold maxLen at hcm
  obtain ⟨w1, hw1⟩ : ∃ w1, w1 = w.alloc (.cells #[.int .i64 P, .int .i64 M, vm] 24) := ⟨_, rfl⟩
  rw [← hw1] at hk0 hbx hc
  go_enter Try.func20, Try.ntmps20
  go_wp2_with (fail)
  rw [← hw1]
  clear hw1 hv
  go_loopw [5, 6] (fun vn vi wr => ∃ k n : Nat, k ≤ p.length ∧ n ≤ k ∧ vi = .int .i64 k ∧ vn = .int .i64 n ∧ Hid (∀ i, n ≤ i → i < k → inn G.q (p.getD i 0) = 0) ∧ Hid (n = 0 ∨ inn G.q (p.getD (n - 1) 0) ≠ 0) ∧ Kept w1 wr) (fun _ vi _ => p.length - (intOf vi).toNat)
  case atStart => exact ⟨0, 0, by omega, by omega, rfl, rfl, hid (fun i _ h => by omega), hid (.inl rfl), Kept.rfl' _⟩
  case round =>
    obtain ⟨k, n, hkp, hnk, rfl, rfl, hz, hnz, hkw⟩ := hrel
    have hbw := hbx.kept hkw
    have c0 := hbw.h0
    have c1 := hbw.h1
    have c2 := hbw.h2
    by_cases hlt : k < p.length
    · obtain ⟨bp, off, rfl, hbp, hcell⟩ := hc (by intro e; rw [e] at hlt; simp at hlt)
      have hck := (Kept.cell' hkw hbp).trans (hcell k hlt)
      have hbp' : bp < wr.heap.size := Nat.lt_of_lt_of_le hbp hkw.size
      obtain ⟨z, hze⟩ : ∃ z, z = p.getD k 0 := ⟨_, rfl⟩
      rw [← hze] at hck
      have HZ := hid hze
      have hki : (k : Int) < (p.length : Int) := by omega
      have k0 : (0 : Int) ≤ (k : Int) := by omega
      obtain ⟨y, hy⟩ : ∃ y, y = inn G.q z := ⟨_, rfl⟩
      have HY : Hid (inn (ordS P M) z = y) := hid (by rw [hy, HQ.out])
      have HY2 := hid hy
      clear hze hcell hc hy
      by_cases hy0 : y = 0
      · have ty : (y != 0) = false := by simpa using hy0
        have hz2 : Hid (∀ i, n ≤ i → i < k + 1 → inn G.q (p.getD i 0) = 0) := hid (fun i h1 h2 => by
          by_cases e : i = k
          · subst e; rw [← HZ.out, ← HY2.out]; exact hy0
          · exact hz.out i h1 (by omega))
        clear hy0
        go_wp2_with (fail)
        go_region_held3 (fun w' => w'.cell? ⟨w.heap.size, 0, none⟩ = some (.int .i64 P) ∧ w'.cell? ⟨w.heap.size, 1, none⟩ = some (.int .i64 M) ∧ w'.cell? ⟨w.heap.size, 2, none⟩ = some vm ∧ w'.cell? ⟨bp, off + k, none⟩ = some (.int .i64 z)) (first | (simp [go_sem]; done) | (simp [*]; done))
          (first | (go_at_call 25; (with_reducible refine (rIn_any P M vm z _).mono ?_); rintro e w3 ⟨rfl, k3⟩; rw [HY.out]; have kk3 := Kept.tr (a := wr) (kept_drew _) k3; have bx3 := hbw.kept kk3; have d0 := bx3.h0; have d1 := bx3.h1; have d2 := bx3.h2; have d3 := (Kept.cell' kk3 hbp').trans hck))
        go_wp2_with (fail)
        go_roundw
        case rel => exact ⟨k + 1, n, by omega, by omega, by go_num, rfl, hz2, hnz, hkw.tr kk3⟩
        case measure => simp [intOf]; omega
      · have ty : (y != 0) = true := by simpa using hy0
        have hz2 : Hid (k + 1 = 0 ∨ inn G.q (p.getD (k + 1 - 1) 0) ≠ 0) := hid (.inr (by rw [Nat.add_sub_cancel, ← HZ.out, ← HY2.out]; exact hy0))
        clear hy0
        go_wp2_with (fail)
        go_region_held3 (fun w' => w'.cell? ⟨w.heap.size, 0, none⟩ = some (.int .i64 P) ∧ w'.cell? ⟨w.heap.size, 1, none⟩ = some (.int .i64 M) ∧ w'.cell? ⟨w.heap.size, 2, none⟩ = some vm ∧ w'.cell? ⟨bp, off + k, none⟩ = some (.int .i64 z)) (first | (simp [go_sem]; done) | (simp [*]; done))
          (first | (go_at_call 25; (with_reducible refine (rIn_any P M vm z _).mono ?_); rintro e w3 ⟨rfl, k3⟩; rw [HY.out]; have kk3 := Kept.tr (a := wr) (kept_drew _) k3; have bx3 := hbw.kept kk3; have d0 := bx3.h0; have d1 := bx3.h1; have d2 := bx3.h2; have d3 := (Kept.cell' kk3 hbp').trans hck))
        go_wp2_with (fail)
        go_roundw
        case rel => exact ⟨k + 1, k + 1, by omega, by omega, by go_num, by go_num, hid (fun i h1 h2 => by omega), hz2, hkw.tr kk3⟩
        case measure => simp [intOf]; omega
    · have ek : k = p.length := by omega
      have hn : n ≤ p.length := by omega
      have HN : Hid (n ≤ p.length ∧ (∀ i, n ≤ i → inn G.q (p.getD i 0) = 0) ∧ (n = 0 ∨ inn G.q (p.getD (n - 1) 0) ≠ 0)) := hid ⟨hn, fun i h1 => by
        by_cases h2 : i < k
        · exact hz.out i h1 h2
        · rw [ld_out (by omega)]; exact inn_yes ⟨by omega, Q0.out⟩, hnz.out⟩
      clear ek hnk hkp hz hnz
      obtain ⟨wo, rfl⟩ : ∃ wo, wo = wr := ⟨_, rfl⟩
      go_wp2_with (at_make; refine wpList_make_ints rfl _ _ rfl n _ _ rfl rfl rfl rfl (by omega) ?_; intro w2 ho2 hk2)
      go_loopw [8] (fun vi wr' => ∃ (j : Nat) (us : List Int), j ≤ n ∧ vi = .int .i64 j ∧ Hid (us.length = n) ∧ Hid (∀ i, us.getD i 0 = if i < j then inn G.q (p.getD i 0) else 0) ∧
          Own wr' wo.heap.size (.slice (some ⟨wo.heap.size, 0, none⟩) n n) us ∧ Kept wo wr') (fun vi _ => n - (intOf vi).toNat)
      case atStart => exact ⟨0, _, by omega, rfl, hid (by simp), hid (fun i => by
        rw [if_neg (by omega)]
        by_cases hi : i < n
        · simp [hi]
        · rw [ld_out (by simp; omega)]), ho2, hk2⟩
      case round =>
        obtain ⟨j, us, hjn, rfl, hul, hus, hown, hkw2⟩ := hrel
        clear ho2 hk2
        have hkw3 := hkw.tr hkw2
        have hbw2 := hbx.kept hkw3
        have c3 := hbw2.h0
        have c4 := hbw2.h1
        have c5 := hbw2.h2
        clear c0 c1 c2
        by_cases hlt : j < n
        · have hlp : j < p.length := by have := HN.out.1; omega
          obtain ⟨bp, off, rfl, hbp, hcell⟩ := hc (by intro e; rw [e] at hlp; simp at hlp)
          have hck := (Kept.cell' hkw3 hbp).trans (hcell j hlp)
          have hbp' : bp < wr.heap.size := Nat.lt_of_lt_of_le hbp hkw3.size
          obtain ⟨z, hze⟩ : ∃ z, z = p.getD j 0 := ⟨_, rfl⟩
          rw [← hze] at hck
          have HZ := hid hze
          have hki : (j : Int) < (p.length : Int) := by omega
          have hkn : (j : Int) < (n : Int) := by omega
          have k0 : (0 : Int) ≤ (j : Int) := by omega
          have kn : (j : Int).toNat = j := by omega
          obtain ⟨y, hy⟩ : ∃ y, y = inn G.q z := ⟨_, rfl⟩
          have HY : Hid (inn (ordS P M) z = y) := hid (by rw [hy, HQ.out])
          have hus' : Hid (∀ i, (us.set j y).getD i 0 = if i < j + 1 then inn G.q (p.getD i 0) else 0) := hid (fun i => by
            by_cases e : i = j
            · subst e
              rw [ldset_eq _ (by rw [hul.out]; exact hlt), if_pos (by omega), ← HZ.out, hy]
            · rw [ldset_ne _ (fun h => e h.symm), hus.out i]
              by_cases h2 : i < j
              · rw [if_pos h2, if_pos (by omega)]
              · rw [if_neg h2, if_neg (by omega)])
          have hul' : Hid (us.length = n) := hul
          have hcu := hown.cell (i := j) (by rw [hul.out]; exact hlt)
          have hfu := hown.frozen j
          clear hze hcell hc hy
          go_wp2_with (fail)
          go_region_law (first
            | (go_simp; go_at_call 25; (with_reducible refine (rIn_any P M vm z _).mono ?_); rintro e w3 ⟨rfl, k3⟩; rw [HY.out]; have kk3 := Kept.tr (a := wr) (by first | exact kept_drew _ | exact kept_drewN _ _ | exact (kept_drew _).drewN _) k3; have own3 := hown.kept kk3; have d4 := own3.cell (i := j) (by rw [hul.out]; exact hlt); have d5 := own3.frozen j))
          all_goals
            go_wp2_with (fail)
            go_roundw
            case rel =>
              refine ⟨j + 1, us.set j y, by omega, by go_num, hid (by simp [hul.out]), hus', ?_, ?_⟩
              · first | exact own3.set _ _ | exact (own3.set _ _).drew | exact (own3.drewN _).set _ _ | exact (own3.set _ _).drewN _
              · first | exact Below.setCell (hkw2.tr kk3) (p := ⟨wo.heap.size, j, none⟩) (Nat.le_refl _) _ | exact (Below.setCell (hkw2.tr kk3) (p := ⟨wo.heap.size, j, none⟩) (Nat.le_refl _) _).drew
            case measure => simp [intOf]; omega
        · have ej : j = n := by omega
          have hin : Hid (∀ i, us.getD i 0 = inn G.q (p.getD i 0)) := hid (fun i => by
            rw [hus.out i]
            by_cases h2 : i < j
            · rw [if_pos h2]
            · rw [if_neg h2, HN.out.2.1 i (by omega)])
          have hus0 : Hid (us ≠ [] → us.getD (us.length - 1) 0 ≠ 0) := hid (fun h => by
            rw [hin.out, hul.out]
            rcases HN.out.2.2 with h0 | h0
            · exact absurd (List.length_eq_zero_iff.1 (by rw [hul.out]; exact h0)) h
            · exact h0)
          clear ej
          go_wp2_with (fail)
          go_ret
          refine ⟨_, us, rfl, hown.mono (by have := hk0.size; have := hkw.size; omega), (hk0.tr hkw).tr hkw2, ?_, t.po_inn hin.out, by have := HN.out.1; have := hul.out; omega⟩
          refine ⟨fun x hx => ?_, hus0.out⟩
          obtain ⟨i, hi, rfl⟩ := List.getElem_of_mem hx
          have h1 := hin.out i
          simp only [List.getD, List.getElem?_eq_getElem hi, Option.getD_some] at h1
          rw [h1]
          exact inn_bd Q0.out _
end Go.Proofs.Ytmakdclgpeochaa
