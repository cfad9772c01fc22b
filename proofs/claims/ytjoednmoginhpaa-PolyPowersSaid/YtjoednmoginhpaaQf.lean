/- The walks of the reference's FromRoots and Roots of polynomials. Conditions: a field's description; lengths are bounded. -/
import Derived.Test.YtjoednmoginhpaaQc
import Derived.Test.YtjoednmoginhpaaQe
namespace Go.Proofs.Ytjoednmoginhpaa
open Go.RowKit Cw

set_option maxRecDepth 100000 in
set_option maxHeartbeats 2000000 in
theorem rFromRoots_p (G : GFd) (t : Tabs G) (P M : Int) (mod : List Int) (vm : Value) (v : Value) (l : List Int) (w : World) (ho : Hid (Of G P M mod)) (hvm : Sl w vm mod) (hv : Sl w v l) (hl : l.length ≤ 1000) :
    Calls Try.prog 42 #[.agg #[.int .i64 P, .int .i64 M, vm], v] w (OutP G t (Pl.prf (fun i => t.e (l.getD i 0)) l.length) w) := by
  have hk0 := kept_alloc w (.cells #[.int .i64 P, .int .i64 M, vm] 24)
  have hbx := boxF_new w P M vm 24
  have smv := hvm.kept hk0
  have svp := hv.kept hk0
  have HZ1 : (w.alloc (.cells #[.int .i64 P, .int .i64 M, vm] 24)).heap.size = w.heap.size + 1 := by simp
  have HZ1 := hid HZ1
  obtain ⟨w1, hw1⟩ : ∃ w1, w1 = w.alloc (.cells #[.int .i64 P, .int .i64 M, vm] 24) := ⟨_, rfl⟩
  rw [← hw1] at hk0 hbx smv HZ1 svp
  obtain ⟨ap, capp, rfl, hcapp, ⟨hcmp, _⟩, hcp⟩ := svp
  unfold maxLen at hcmp
  have kA := kept_alloc w1 (.cells #[.int .i64 1] 3)
  have oA := own_one (w := w1) (B := 0) (x := 1) (Nat.zero_le _)
  have oA : Own (w1.alloc (.cells #[.int .i64 1] 3)) 0 (.slice (some ⟨w.heap.size + 1, 0, none⟩) 1 1) [1] := by rw [← HZ1.out]; exact oA
  have oA := own_up oA (B' := w.heap.size) (fun g n c e => by cases e; omega)
  go_enter Try.func42, Try.ntmps42
  go_wp2_with (fail)
  rw [← hw1]
  clear hw1
  go_loopw [5, 6] (fun vo vi wr => ∃ (k : Nat) (l2 : List Int), k ≤ l.length ∧ vi = .int .i64 k ∧ Own wr w.heap.size vo l2 ∧ Kept w1 wr ∧ Cano G l2 ∧ Hid (t.pl l2 = Pl.prf (fun i => t.e (l.getD i 0)) k)) (fun _ vi _ => l.length - (intOf vi).toNat)
  case atStart => exact ⟨0, [1], by omega, rfl, oA, kA, cano_one t, hid t.pl_one⟩
  case round =>
    obtain ⟨k, l2, hk, rfl, hown, hkw, c2, p2⟩ := hrel
    clear oA kA
    have hbw := hbx.kept hkw
    have c0 := hbw.h0
    have c1 := hbw.h1
    have c3 := hbw.h2
    have smw := smv.kept hkw
    by_cases hlt : k < l.length
    · obtain ⟨bp, off, rfl, hbp, hcell⟩ := hcp (by intro e; rw [e] at hlt; simp at hlt)
      have hck := (Kept.cell' hkw hbp).trans (hcell k hlt)
      have hbp' : bp < wr.heap.size := Nat.lt_of_lt_of_le hbp hkw.size
      have hst : Hid (Pl.prf (fun i => t.e (l.getD i 0)) (k + 1) = Pl.prf (fun i => t.e (l.getD i 0)) k * Pl.lin (t.e (l.getD k 0))) := hid rfl
      have hwb : w.heap.size ≤ wr.heap.size := by have := hk0.size; have := hkw.size; omega
      have hlen : l2.length ≤ 1001 := by have := t.can_ln' c2 p2.out; rw [Pl.ln_prf] at this; omega
      obtain ⟨z, hz⟩ : ∃ z, z = l.getD k 0 := ⟨_, rfl⟩
      rw [← hz] at hck hst
      have hki : (k : Int) < (l.length : Int) := by omega
      have k0 : (0 : Int) ≤ (k : Int) := by omega
      clear hcell hcp hz
      go_wp2_with (fail)
      have hkc := Kept.rfl' wr
      go_region_held3 (fun w' => w'.cell? ⟨w.heap.size, 0, none⟩ = some (.int .i64 P) ∧ w'.cell? ⟨w.heap.size, 1, none⟩ = some (.int .i64 M) ∧ w'.cell? ⟨w.heap.size, 2, none⟩ = some vm ∧ w'.cell? ⟨bp, off + k, none⟩ = some (.int .i64 z)) (first | (simp [go_sem]; done) | (refine ⟨?_, ?_, ?_, ?_⟩ <;> (rw [cell_allocNe (by assumption)]; assumption)) | (simp [*]; done))
        (first
          | (go_at_call 73; (with_reducible refine (rNeg_field G t P M mod vm z _ ho.out).mono ?_); rintro e wx ⟨rfl, kx⟩; have hkn := Kept.tr (b := _) (by first | exact hkc | exact hkc.tr (kept_drew _) | exact hkc.tr (kept_drewN _ _)) kx; clear hkc kx; have hkc := hkn; clear hkn; have bxx := hbw.kept hkc; have d0 := bxx.h0; have d1 := bxx.h1; have d2 := bxx.h2; have d3 := (Kept.cell' hkc hbp').trans hck; have lt0 := bxx.lt; have lt1 := hkc.lt hbp')
          | (go_at_call 26; (with_reducible refine (rMul_p G t P M mod vm _ _ l2 [negG G z, 1] _ ho (smw.kept (by first | exact hkc | exact hkc.tr (kept_drew _) | exact hkc.tr (kept_alloc _ _) | exact hkc.tr (kept_drewN _ _))) (hown.sl.kept (by first | exact hkc | exact hkc.tr (kept_drew _) | exact hkc.tr (kept_alloc _ _) | exact hkc.tr (kept_drewN _ _))) (own_two (B := 0) (Nat.zero_le _)).sl (by omega) (by simp)).mono ?_); rintro e wx ⟨v4, l4, rfl, o4, kx, c4, p4⟩; have P4 := hid p4; have o4 := o4.mono (Nat.le_trans hwb (Below.size (show Kept wr _ from (by first | exact hkc | exact hkc.tr (kept_drew _) | exact hkc.tr (kept_alloc _ _) | exact hkc.tr (kept_drewN _ _))))); have hkn := Kept.tr (b := _) (by first | exact hkc | exact hkc.tr (kept_drew _) | exact hkc.tr (kept_alloc _ _) | exact hkc.tr (kept_drewN _ _)) kx; clear p4 hkc kx; have hkc := hkn; clear hkn; have bxx := hbw.kept hkc; have d0 := bxx.h0; have d1 := bxx.h1; have d2 := bxx.h2; have d3 := (Kept.cell' hkc hbp').trans hck))
      all_goals
        go_wp2_with (fail)
        go_roundw
        case rel => exact ⟨k + 1, l4, by omega, by go_num, o4, hkw.tr hkc, c4, hid (by rw [P4.out, p2.out, hst.out, t.pl_lin])⟩
        case measure => simp [intOf]; omega
    · have ek : k = l.length := by omega
      have HP : Hid (t.pl l2 = Pl.prf (fun i => t.e (l.getD i 0)) l.length) := hid (by rw [p2.out, ek])
      clear ek
      go_wp2_with (fail)
      go_ret
      exact ⟨_, l2, rfl, hown, hk0.tr hkw, c2, HP.out⟩
end Go.Proofs.Ytjoednmoginhpaa
