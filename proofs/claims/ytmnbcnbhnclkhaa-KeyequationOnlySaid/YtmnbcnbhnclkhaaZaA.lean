/- The walks of the reference's Holds and Pair of the key equation. Conditions: a field's description; lengths are bounded. The walks of the reference's Locator and Forney of the key equation. Conditions: a field's description; lengths are bounded. The walk of the reference's Syndrome of the key equation. Conditions: a field's description; lengths are bounded. The walks of the reference's Distance and Different of the key equation. Conditions: a field's description; lengths are bounded. The walk of the law's errors (chapter 38). Conditions: a field's description; lengths are bounded. -/
import Derived.Test.YtmnbcnbhnclkhaaYaA
import Derived.Test.YtmnbcnbhnclkhaaQc
import Derived.Test.YtmnbcnbhnclkhaaQe
import Derived.Test.YtmnbcnbhnclkhaaRk
import Derived.Lib.QuietBelow
import Derived.BigQuiet
namespace Go.Proofs.Ytmnbcnbhnclkhaa
open Go.RowKit Cw

theorem rAt_0' (G : GFd) (t : Tabs G) (P M : Int) (mod : List Int) (vm : Value) (v : Value) (p : List Int) (w : World) (ho : Hid (Of G P M mod)) (hv : Sl w v p) :
    Calls Try.prog 50 #[.agg #[.int .i64 P, .int .i64 M, vm], v, .int .i64 0] w fun e w' => e = .returned (.int .i64 (inn G.q (p.getD 0 0))) ∧ Kept w w' := by
  have := rAt_p G t P M mod vm v p 0 w ho hv (by omega)
  simpa using this
theorem at_eq {G : GFd} (t : Tabs G) (p q : List Int) (i : Nat) : inn G.q (p.getD i 0) = inn G.q (q.getD i 0) ↔ (t.pl p).a i = (t.pl q).a i := by
  rw [t.e_inn_eq, t.pl_at, t.pl_at]
set_option maxRecDepth 100000 in
set_option maxHeartbeats 4000000 in
theorem rkHolds_r (G : GFd) (t : Tabs G) (P M : Int) (mod : List Int) (vm : Value) (vs vL vV : Value) (s L V : List Int) (r : Int) (res : Bool) (w : World) (ho : Hid (Of G P M mod)) (hvm : Sl w vm mod) (hs : Sl w vs s) (hL : Sl w vL L) (hV : Sl w vV V) (nL : L.length ≤ 1000) (ns : s.length ≤ 1000) (nV : V.length ≤ 1000) (hr : BIf res (KeyP t s r L V)) :
    Calls Try.prog 32 #[.agg #[.int .i64 P, .int .i64 M, vm], vs, .int .i64 r, vL, vV] w fun e w' => e = .returned (.bool res) ∧ Kept w w' := by
  have hk0 := kept_alloc w (.cells #[.int .i64 P, .int .i64 M, vm] 24)
  have hbx := boxF_new w P M vm 24
  have smv := hvm.kept hk0
  have svs := hs.kept hk0
  have svL := hL.kept hk0
  have svV := hV.kept hk0
  have HZ1 : (w.alloc (.cells #[.int .i64 P, .int .i64 M, vm] 24)).heap.size = w.heap.size + 1 := by simp
  have HZ1 := hid HZ1
  obtain ⟨w1, hw1⟩ : ∃ w1, w1 = w.alloc (.cells #[.int .i64 P, .int .i64 M, vm] 24) := ⟨_, rfl⟩
  rw [← hw1] at hk0 hbx smv HZ1 svs svL svV
  obtain ⟨aV, cV, rfl, hV1, hV2⟩ := sl_len svV
  unfold maxLen at hV2
  have HR := hid hr
  have hbw := hbx
  have c0 := hbx.h0
  have c1 := hbx.h1
  have c2 := hbx.h2
  have hkc := Kept.rfl' w1
  clear hr hs hL hV
  go_enter Try.func32, Try.ntmps32
  go_wp2_with (fail)
  rw [← hw1]
  clear hw1
  go_wp2_with (fail)
  with_reducible refine (rMul_p G t P M mod vm _ _ L s _ ho smv svL svs (by omega) (by omega)).mono ?_
  rintro e w2 ⟨v2, l2, rfl, o2, k2, c2', p2⟩
  obtain ⟨a2, cp2, rfl, h21, h22⟩ := o2.sh
  have P2 := hid p2
  have s2 := o2.sl
  have n2 : l2.length ≤ 2000 := by have := t.can_ln' c2' p2; have := Pl.ln_mul_le (t.pl L) (t.pl s); have := t.pl_ln_le L; have := t.pl_ln_le s; omega
  have hbw := hbx.kept k2
  have sV := svV.kept k2
  have hk2 := k2
  clear p2 o2 c2' hkc c0 c1 c2
  have hcase : l2.length < V.length ∨ V.length ≤ l2.length := by omega
  rcases hcase with hle | hle
  all_goals
    have hlei : (l2.length : Int) < (V.length : Int) ∨ (V.length : Int) ≤ (l2.length : Int) := by omega
    first
      | (have h1 : (l2.length : Int) < (V.length : Int) := by omega)
      | (have h1 : (V.length : Int) ≤ (l2.length : Int) := by omega)
    obtain ⟨N, hN⟩ : ∃ N, N = max l2.length V.length := ⟨_, rfl⟩
    have HN := hid hN
    have hN2 : N ≤ 2000 := by omega
    have hNi : Hid (N = max l2.length V.length) := hid hN
    clear hN hlei
    go_wp2_with (fail)
    go_loopw [13] (fun vj wr => ∃ j : Nat, j ≤ N ∧ vj = .int .i64 j ∧ Kept w2 wr ∧ Hid (∀ i, i < j → (t.pl L * t.pl s).a i = (t.pl V).a i)) (fun vj _ => N - (intOf vj).toNat)
    case atStart => exact ⟨0, by omega, rfl, Kept.rfl' _, hid (fun i hi => by omega)⟩
    case round =>
      obtain ⟨j, hj, rfl, hkw, hI⟩ := hrel
      have hbw := hbw.kept hkw
      have c0 := hbw.h0
      have c1 := hbw.h1
      have c2 := hbw.h2
      have smw := (smv.kept hk2).kept hkw
      have s2w := s2.kept hkw
      have sVw := sV.kept hkw
      have j0 : (0 : Int) ≤ (j : Int) := by omega
      have jj : j ≤ 1000000 := by omega
      by_cases hjr : (j : Int) < r
      case neg =>
        have HT : Hid (res = true) := hid ((show res = true ↔ _ from HR.out).2 (fun i hi => hI.out i (by omega)))
        have hge : r ≤ (j : Int) := by omega
        clear hjr
        go_wp2_with (fail)
        go_ret
        exact ⟨ret_bool HT.out.symm, hk0.tr (hk2.tr hkw)⟩
      by_cases hjN : j < N
      case neg =>
        have HT : Hid (res = true) := hid ((show res = true ↔ _ from HR.out).2 (fun i hi => by
          by_cases hij : i < j
          · exact hI.out i hij
          · have := hNi.out
            rw [← P2.out, t.pl_at, t.pl_at, ld_out (by omega), ld_out (by omega)]))
        first
          | (have hg1 : (l2.length : Int) ≤ (j : Int) := by have := hNi.out; omega)
        first
          | (have hg2 : (V.length : Int) ≤ (j : Int) := by have := hNi.out; omega)
        clear hjN
        go_wp2_with (fail)
        go_ret
        exact ⟨ret_bool HT.out.symm, hk0.tr (hk2.tr hkw)⟩
      first
        | (have hg1 : (j : Int) < (V.length : Int) := by have := hNi.out; omega)
        | (have hg1 : (j : Int) < (l2.length : Int) := by have := hNi.out; omega)
      have hat := at_eq t l2 V j
      obtain ⟨x, hx⟩ : ∃ x, x = inn G.q (l2.getD j 0) := ⟨_, rfl⟩
      obtain ⟨y, hy⟩ : ∃ y, y = inn G.q (V.getD j 0) := ⟨_, rfl⟩
      rw [← hx, ← hy, P2.out] at hat
      have HX : Hid (inn G.q (l2.getD j 0) = x) := hid hx.symm
      have HY : Hid (inn G.q (V.getD j 0) = y) := hid hy.symm
      have HAT : Hid (x = y ↔ (t.pl L * t.pl s).a j = (t.pl V).a j) := hid hat
      clear hat hx hy
      by_cases hxy : x = y
      · subst hxy
        have HI' : Hid (∀ i, i < j + 1 → (t.pl L * t.pl s).a i = (t.pl V).a i) := hid (fun i hi => by
          by_cases e : i = j
          · rw [e]; exact HAT.out.1 rfl
          · exact hI.out i (by omega))
        go_wp2_with (fail)
        have hkc := Kept.rfl' wr
        go_region_held3 (fun w' => w'.cell? ⟨w.heap.size, 0, none⟩ = some (.int .i64 P) ∧ w'.cell? ⟨w.heap.size, 1, none⟩ = some (.int .i64 M) ∧ w'.cell? ⟨w.heap.size, 2, none⟩ = some vm) (first | (simp [go_sem]; done) | (simp [*]; done))
          (first
            | (go_at_call 50; (with_reducible refine (rAt_p G t P M mod vm _ l2 j _ ho (s2w.kept (by first | exact hkc | exact hkc.tr (kept_drew _) | exact hkc.tr (kept_drewN _ _))) jj).mono ?_); rintro e wx ⟨rfl, kx⟩; rw [HX.out]; have hkn := Kept.tr (b := _) (by first | exact hkc | exact hkc.tr (kept_drew _) | exact hkc.tr (kept_drewN _ _)) kx; clear hkc kx; have hkc := hkn; clear hkn; have bxx := hbw.kept hkc; have d0 := bxx.h0; have d1 := bxx.h1; have d2 := bxx.h2)
            | (go_at_call 50; (with_reducible refine (rAt_p G t P M mod vm _ V j _ ho (sVw.kept (by first | exact hkc | exact hkc.tr (kept_drew _) | exact hkc.tr (kept_drewN _ _))) jj).mono ?_); rintro e wx ⟨rfl, kx⟩; rw [HY.out]; have hkn := Kept.tr (b := _) (by first | exact hkc | exact hkc.tr (kept_drew _) | exact hkc.tr (kept_drewN _ _)) kx; clear hkc kx; have hkc := hkn; clear hkn; have bxx := hbw.kept hkc; have d0 := bxx.h0; have d1 := bxx.h1; have d2 := bxx.h2))
        all_goals
          go_wp2_with (fail)
          go_roundw
          case rel => exact ⟨j + 1, by omega, by go_num, by first | exact hkw.tr hkc | exact (hkw.tr hkc).drew | exact (hkw.tr hkc).drewN _, HI'⟩
          case measure => simp [intOf]; omega
      · have HF : Hid (res = false) := hid (by
          cases hres : res with
          | false => rfl
          | true => exact absurd (HAT.out.2 ((show res = true ↔ _ from HR.out).1 hres j hjr)) hxy)
        have txy : (x != y) = true := by simpa using hxy
        have txy2 : (x == y) = false := by simpa using hxy
        go_wp2_with (fail)
        have hkc := Kept.rfl' wr
        go_region_held3 (fun w' => w'.cell? ⟨w.heap.size, 0, none⟩ = some (.int .i64 P) ∧ w'.cell? ⟨w.heap.size, 1, none⟩ = some (.int .i64 M) ∧ w'.cell? ⟨w.heap.size, 2, none⟩ = some vm) (first | (simp [go_sem]; done) | (simp [*]; done))
          (first
            | (go_at_call 50; (with_reducible refine (rAt_p G t P M mod vm _ l2 j _ ho (s2w.kept (by first | exact hkc | exact hkc.tr (kept_drew _) | exact hkc.tr (kept_drewN _ _))) jj).mono ?_); rintro e wx ⟨rfl, kx⟩; rw [HX.out]; have hkn := Kept.tr (b := _) (by first | exact hkc | exact hkc.tr (kept_drew _) | exact hkc.tr (kept_drewN _ _)) kx; clear hkc kx; have hkc := hkn; clear hkn; have bxx := hbw.kept hkc; have d0 := bxx.h0; have d1 := bxx.h1; have d2 := bxx.h2)
            | (go_at_call 50; (with_reducible refine (rAt_p G t P M mod vm _ V j _ ho (sVw.kept (by first | exact hkc | exact hkc.tr (kept_drew _) | exact hkc.tr (kept_drewN _ _))) jj).mono ?_); rintro e wx ⟨rfl, kx⟩; rw [HY.out]; have hkn := Kept.tr (b := _) (by first | exact hkc | exact hkc.tr (kept_drew _) | exact hkc.tr (kept_drewN _ _)) kx; clear hkc kx; have hkc := hkn; clear hkn; have bxx := hbw.kept hkc; have d0 := bxx.h0; have d1 := bxx.h1; have d2 := bxx.h2))
        all_goals
          go_wp2_with (fail)
          go_ret
          exact ⟨ret_bool HF.out.symm, by first | exact hk0.tr (hk2.tr (hkw.tr hkc)) | exact (hk0.tr (hk2.tr (hkw.tr hkc))).drew | exact (hk0.tr (hk2.tr (hkw.tr hkc))).drewN _⟩
theorem pair_iff {G : GFd} (t : Tabs G) (s L V : List Int) (r n : Nat) : Pl.PairP (t.pl s) r n (t.pl L) (t.pl V) ↔ KeyP t s r L V ∧ 2 * (((t.pl L).ln : Int) - 1) ≤ (r : Int) - n ∧ 2 * (((t.pl V).ln : Int) - 1) < (r : Int) + n ∧ inn G.q (L.getD 0 0) = 1 := by
  have hq := t.qb
  have h0 : (t.pl L).a 0 = 1 ↔ inn G.q (L.getD 0 0) = 1 := by
    rw [t.pl_at, ← t.e_inn]
    constructor
    · intro h; exact t.e_eq (inn_bd (by omega) _) ⟨by omega, by omega⟩ (by rw [h, t.e_one])
    · intro h; rw [h, t.e_one]
  constructor
  · intro h
    exact ⟨fun i hi => Pl.cg_x.1 h.key i (by omega), h.dL, h.dV, h0.1 h.one⟩
  · rintro ⟨h1, h2, h3, h4⟩
    exact ⟨Pl.cg_x.2 fun i hi => h1 i (by omega), h2, h3, h0.2 h4⟩
set_option maxRecDepth 100000 in
set_option maxHeartbeats 2000000 in
theorem rkPair_r (G : GFd) (t : Tabs G) (P M : Int) (mod : List Int) (vm : Value) (vs vL vV : Value) (s L V : List Int) (r n : Nat) (res : Bool) (w : World) (ho : Hid (Of G P M mod)) (hvm : Sl w vm mod) (hs : Sl w vs s) (hL : Sl w vL L) (hV : Sl w vV V) (nL : L.length ≤ 1000) (ns : s.length ≤ 1000) (nV : V.length ≤ 1000) (nr : r ≤ 1000) (nn : n ≤ 1000) (hr : BIf res (Pl.PairP (t.pl s) r n (t.pl L) (t.pl V))) :
    Calls Try.prog 21 #[.agg #[.int .i64 P, .int .i64 M, vm], vs, .int .i64 r, .int .i64 n, vL, vV] w fun e w' => e = .returned (.bool res) ∧ Kept w w' := by
  have hk0 := kept_alloc w (.cells #[.int .i64 P, .int .i64 M, vm] 24)
  have hbx := boxF_new w P M vm 24
  have smv := hvm.kept hk0
  have svs := hs.kept hk0
  have svL := hL.kept hk0
  have svV := hV.kept hk0
  have HZ1 : (w.alloc (.cells #[.int .i64 P, .int .i64 M, vm] 24)).heap.size = w.heap.size + 1 := by simp
  have HZ1 := hid HZ1
  obtain ⟨w1, hw1⟩ : ∃ w1, w1 = w.alloc (.cells #[.int .i64 P, .int .i64 M, vm] 24) := ⟨_, rfl⟩
  rw [← hw1] at hk0 hbx smv HZ1 svs svL svV
  have hr : res = true ↔ _ := hr
  rw [pair_iff] at hr
  have hbw := hbx
  have c0 := hbx.h0
  have c1 := hbx.h1
  have c2 := hbx.h2
  have hkc := Kept.rfl' w1
  obtain ⟨d1, hd1⟩ : ∃ d, d = (t.pl L).ln := ⟨_, rfl⟩
  obtain ⟨d2, hd2⟩ : ∃ d, d = (t.pl V).ln := ⟨_, rfl⟩
  obtain ⟨y, hy⟩ : ∃ y, y = inn G.q (L.getD 0 0) := ⟨_, rfl⟩
  rw [← hd1, ← hd2, ← hy] at hr
  have nd1 : d1 ≤ 1000 := by have := t.pl_ln_le L; omega
  have nd2 : d2 ≤ 1000 := by have := t.pl_ln_le V; omega
  have D1 : Hid ((t.pl L).ln = d1) := hid hd1.symm
  have D2 : Hid ((t.pl V).ln = d2) := hid hd2.symm
  have HY : Hid (inn G.q (L.getD 0 0) = y) := hid hy.symm
  have w1' : IntKind.i64.wrap (2 * ((d1 : Int) - 1)) = 2 * ((d1 : Int) - 1) := IntWalk.i64_in _ (by omega)
  have w2' : IntKind.i64.wrap (2 * ((d2 : Int) - 1)) = 2 * ((d2 : Int) - 1) := IntWalk.i64_in _ (by omega)
  have w3' : IntKind.i64.wrap ((r : Int) - (n : Int)) = (r : Int) - (n : Int) := IntWalk.i64_in _ (by omega)
  have w4' : IntKind.i64.wrap ((r : Int) + (n : Int)) = (r : Int) + (n : Int) := IntWalk.i64_in _ (by omega)
  clear hs hL hV hd1 hd2 hy
  by_cases hK : KeyP t s r L V
  case neg =>
    have HK : Hid (BIf false (KeyP t s r L V)) := hid ⟨(fun h => by cases h), fun h => absurd h hK⟩
    have HT : Hid (res = false) := hid (by
      cases hres : res with
      | false => rfl
      | true => exact absurd (hr.1 hres).1 hK)
    clear hr hK
    go_enter Try.func21, Try.ntmps21
    go_wp2_with (fail)
    rw [← hw1]
    clear hw1
    go_wp2_with (first
      | (go_at_call 32; (with_reducible refine (rkHolds_r G t P M mod vm _ _ _ s L V r false _ ho (smv.kept (by first | exact hkc | exact hkc.tr (kept_drew _) | exact hkc.tr (kept_drewN _ _))) (svs.kept (by first | exact hkc | exact hkc.tr (kept_drew _) | exact hkc.tr (kept_drewN _ _))) (svL.kept (by first | exact hkc | exact hkc.tr (kept_drew _) | exact hkc.tr (kept_drewN _ _))) (svV.kept (by first | exact hkc | exact hkc.tr (kept_drew _) | exact hkc.tr (kept_drewN _ _))) nL ns nV HK.out).mono ?_); rintro e wx ⟨rfl, kx⟩; have hkn := Kept.tr (b := _) (by first | exact hkc | exact hkc.tr (kept_drew _) | exact hkc.tr (kept_drewN _ _)) kx; clear hkc kx; have hkc := hkn; clear hkn; have bxx := hbw.kept hkc; have d0 := bxx.h0; have d1 := bxx.h1; have d2 := bxx.h2)
      | (go_at_call 37; (with_reducible refine (rDegree_p G t P M mod vm _ L _ ho (svL.kept (by first | exact hkc | exact hkc.tr (kept_drew _) | exact hkc.tr (kept_drewN _ _))) (by omega)).mono ?_); rintro e wx ⟨rfl, kx⟩; rw [D1.out]; have hkn := Kept.tr (b := _) (by first | exact hkc | exact hkc.tr (kept_drew _) | exact hkc.tr (kept_drewN _ _)) kx; clear hkc kx; have hkc := hkn; clear hkn; have bxx := hbw.kept hkc; have d0 := bxx.h0; have d1 := bxx.h1; have d2 := bxx.h2)
      | (go_at_call 37; (with_reducible refine (rDegree_p G t P M mod vm _ V _ ho (svV.kept (by first | exact hkc | exact hkc.tr (kept_drew _) | exact hkc.tr (kept_drewN _ _))) (by omega)).mono ?_); rintro e wx ⟨rfl, kx⟩; rw [D2.out]; have hkn := Kept.tr (b := _) (by first | exact hkc | exact hkc.tr (kept_drew _) | exact hkc.tr (kept_drewN _ _)) kx; clear hkc kx; have hkc := hkn; clear hkn; have bxx := hbw.kept hkc; have d0 := bxx.h0; have d1 := bxx.h1; have d2 := bxx.h2)
      | (go_at_call 50; (with_reducible refine (rAt_0' G t P M mod vm _ L _ ho (svL.kept (by first | exact hkc | exact hkc.tr (kept_drew _) | exact hkc.tr (kept_drewN _ _)))).mono ?_); rintro e wx ⟨rfl, kx⟩; rw [HY.out]; have hkn := Kept.tr (b := _) (by first | exact hkc | exact hkc.tr (kept_drew _) | exact hkc.tr (kept_drewN _ _)) kx; clear hkc kx; have hkc := hkn; clear hkn; have bxx := hbw.kept hkc; have d0 := bxx.h0; have d1 := bxx.h1; have d2 := bxx.h2))
    go_ret
    exact ⟨ret_bool (by first | exact HT.out.symm | (simp; omega) | simp), hk0.tr hkc⟩
  have HK : Hid (BIf true (KeyP t s r L V)) := hid ⟨fun _ => hK, fun _ => rfl⟩
  by_cases h2 : 2 * ((d1 : Int) - 1) ≤ (r : Int) - n
  case neg =>
    have HT : Hid (res = false) := hid (by
      cases hres : res with
      | false => rfl
      | true => exact absurd (hr.1 hres).2.1 h2)
    clear hr hK
    have h2' : (r : Int) - n < 2 * ((d1 : Int) - 1) := by omega
    clear h2
    go_enter Try.func21, Try.ntmps21
    go_wp2_with (fail)
    rw [← hw1]
    clear hw1
    go_wp2_with (first
      | (go_at_call 32; (with_reducible refine (rkHolds_r G t P M mod vm _ _ _ s L V r true _ ho (smv.kept (by first | exact hkc | exact hkc.tr (kept_drew _) | exact hkc.tr (kept_drewN _ _))) (svs.kept (by first | exact hkc | exact hkc.tr (kept_drew _) | exact hkc.tr (kept_drewN _ _))) (svL.kept (by first | exact hkc | exact hkc.tr (kept_drew _) | exact hkc.tr (kept_drewN _ _))) (svV.kept (by first | exact hkc | exact hkc.tr (kept_drew _) | exact hkc.tr (kept_drewN _ _))) nL ns nV HK.out).mono ?_); rintro e wx ⟨rfl, kx⟩; have hkn := Kept.tr (b := _) (by first | exact hkc | exact hkc.tr (kept_drew _) | exact hkc.tr (kept_drewN _ _)) kx; clear hkc kx; have hkc := hkn; clear hkn; have bxx := hbw.kept hkc; have d0 := bxx.h0; have d1 := bxx.h1; have d2 := bxx.h2)
      | (go_at_call 37; (with_reducible refine (rDegree_p G t P M mod vm _ L _ ho (svL.kept (by first | exact hkc | exact hkc.tr (kept_drew _) | exact hkc.tr (kept_drewN _ _))) (by omega)).mono ?_); rintro e wx ⟨rfl, kx⟩; rw [D1.out]; have hkn := Kept.tr (b := _) (by first | exact hkc | exact hkc.tr (kept_drew _) | exact hkc.tr (kept_drewN _ _)) kx; clear hkc kx; have hkc := hkn; clear hkn; have bxx := hbw.kept hkc; have d0 := bxx.h0; have d1 := bxx.h1; have d2 := bxx.h2)
      | (go_at_call 37; (with_reducible refine (rDegree_p G t P M mod vm _ V _ ho (svV.kept (by first | exact hkc | exact hkc.tr (kept_drew _) | exact hkc.tr (kept_drewN _ _))) (by omega)).mono ?_); rintro e wx ⟨rfl, kx⟩; rw [D2.out]; have hkn := Kept.tr (b := _) (by first | exact hkc | exact hkc.tr (kept_drew _) | exact hkc.tr (kept_drewN _ _)) kx; clear hkc kx; have hkc := hkn; clear hkn; have bxx := hbw.kept hkc; have d0 := bxx.h0; have d1 := bxx.h1; have d2 := bxx.h2)
      | (go_at_call 50; (with_reducible refine (rAt_0' G t P M mod vm _ L _ ho (svL.kept (by first | exact hkc | exact hkc.tr (kept_drew _) | exact hkc.tr (kept_drewN _ _)))).mono ?_); rintro e wx ⟨rfl, kx⟩; rw [HY.out]; have hkn := Kept.tr (b := _) (by first | exact hkc | exact hkc.tr (kept_drew _) | exact hkc.tr (kept_drewN _ _)) kx; clear hkc kx; have hkc := hkn; clear hkn; have bxx := hbw.kept hkc; have d0 := bxx.h0; have d1 := bxx.h1; have d2 := bxx.h2))
    go_ret
    exact ⟨ret_bool (by first | exact HT.out.symm | (simp; omega) | simp), hk0.tr hkc⟩
  by_cases h3 : 2 * ((d2 : Int) - 1) < (r : Int) + n
  case neg =>
    have HT : Hid (res = false) := hid (by
      cases hres : res with
      | false => rfl
      | true => exact absurd (hr.1 hres).2.2.1 h3)
    clear hr hK
    have h3' : (r : Int) + n ≤ 2 * ((d2 : Int) - 1) := by omega
    clear h3
    go_enter Try.func21, Try.ntmps21
    go_wp2_with (fail)
    rw [← hw1]
    clear hw1
    go_wp2_with (first
      | (go_at_call 32; (with_reducible refine (rkHolds_r G t P M mod vm _ _ _ s L V r true _ ho (smv.kept (by first | exact hkc | exact hkc.tr (kept_drew _) | exact hkc.tr (kept_drewN _ _))) (svs.kept (by first | exact hkc | exact hkc.tr (kept_drew _) | exact hkc.tr (kept_drewN _ _))) (svL.kept (by first | exact hkc | exact hkc.tr (kept_drew _) | exact hkc.tr (kept_drewN _ _))) (svV.kept (by first | exact hkc | exact hkc.tr (kept_drew _) | exact hkc.tr (kept_drewN _ _))) nL ns nV HK.out).mono ?_); rintro e wx ⟨rfl, kx⟩; have hkn := Kept.tr (b := _) (by first | exact hkc | exact hkc.tr (kept_drew _) | exact hkc.tr (kept_drewN _ _)) kx; clear hkc kx; have hkc := hkn; clear hkn; have bxx := hbw.kept hkc; have d0 := bxx.h0; have d1 := bxx.h1; have d2 := bxx.h2)
      | (go_at_call 37; (with_reducible refine (rDegree_p G t P M mod vm _ L _ ho (svL.kept (by first | exact hkc | exact hkc.tr (kept_drew _) | exact hkc.tr (kept_drewN _ _))) (by omega)).mono ?_); rintro e wx ⟨rfl, kx⟩; rw [D1.out]; have hkn := Kept.tr (b := _) (by first | exact hkc | exact hkc.tr (kept_drew _) | exact hkc.tr (kept_drewN _ _)) kx; clear hkc kx; have hkc := hkn; clear hkn; have bxx := hbw.kept hkc; have d0 := bxx.h0; have d1 := bxx.h1; have d2 := bxx.h2)
      | (go_at_call 37; (with_reducible refine (rDegree_p G t P M mod vm _ V _ ho (svV.kept (by first | exact hkc | exact hkc.tr (kept_drew _) | exact hkc.tr (kept_drewN _ _))) (by omega)).mono ?_); rintro e wx ⟨rfl, kx⟩; rw [D2.out]; have hkn := Kept.tr (b := _) (by first | exact hkc | exact hkc.tr (kept_drew _) | exact hkc.tr (kept_drewN _ _)) kx; clear hkc kx; have hkc := hkn; clear hkn; have bxx := hbw.kept hkc; have d0 := bxx.h0; have d1 := bxx.h1; have d2 := bxx.h2)
      | (go_at_call 50; (with_reducible refine (rAt_0' G t P M mod vm _ L _ ho (svL.kept (by first | exact hkc | exact hkc.tr (kept_drew _) | exact hkc.tr (kept_drewN _ _)))).mono ?_); rintro e wx ⟨rfl, kx⟩; rw [HY.out]; have hkn := Kept.tr (b := _) (by first | exact hkc | exact hkc.tr (kept_drew _) | exact hkc.tr (kept_drewN _ _)) kx; clear hkc kx; have hkc := hkn; clear hkn; have bxx := hbw.kept hkc; have d0 := bxx.h0; have d1 := bxx.h1; have d2 := bxx.h2))
    go_ret
    exact ⟨ret_bool (by first | exact HT.out.symm | (simp; omega) | simp), hk0.tr hkc⟩
  by_cases h4 : y = 1
  · have HT : Hid (res = true) := hid (hr.2 ⟨hK, h2, h3, h4⟩)
    subst h4
    clear hr hK
    go_enter Try.func21, Try.ntmps21
    go_wp2_with (fail)
    rw [← hw1]
    clear hw1
    go_wp2_with (first
      | (go_at_call 32; (with_reducible refine (rkHolds_r G t P M mod vm _ _ _ s L V r true _ ho (smv.kept (by first | exact hkc | exact hkc.tr (kept_drew _) | exact hkc.tr (kept_drewN _ _))) (svs.kept (by first | exact hkc | exact hkc.tr (kept_drew _) | exact hkc.tr (kept_drewN _ _))) (svL.kept (by first | exact hkc | exact hkc.tr (kept_drew _) | exact hkc.tr (kept_drewN _ _))) (svV.kept (by first | exact hkc | exact hkc.tr (kept_drew _) | exact hkc.tr (kept_drewN _ _))) nL ns nV HK.out).mono ?_); rintro e wx ⟨rfl, kx⟩; have hkn := Kept.tr (b := _) (by first | exact hkc | exact hkc.tr (kept_drew _) | exact hkc.tr (kept_drewN _ _)) kx; clear hkc kx; have hkc := hkn; clear hkn; have bxx := hbw.kept hkc; have d0 := bxx.h0; have d1 := bxx.h1; have d2 := bxx.h2)
      | (go_at_call 37; (with_reducible refine (rDegree_p G t P M mod vm _ L _ ho (svL.kept (by first | exact hkc | exact hkc.tr (kept_drew _) | exact hkc.tr (kept_drewN _ _))) (by omega)).mono ?_); rintro e wx ⟨rfl, kx⟩; rw [D1.out]; have hkn := Kept.tr (b := _) (by first | exact hkc | exact hkc.tr (kept_drew _) | exact hkc.tr (kept_drewN _ _)) kx; clear hkc kx; have hkc := hkn; clear hkn; have bxx := hbw.kept hkc; have d0 := bxx.h0; have d1 := bxx.h1; have d2 := bxx.h2)
      | (go_at_call 37; (with_reducible refine (rDegree_p G t P M mod vm _ V _ ho (svV.kept (by first | exact hkc | exact hkc.tr (kept_drew _) | exact hkc.tr (kept_drewN _ _))) (by omega)).mono ?_); rintro e wx ⟨rfl, kx⟩; rw [D2.out]; have hkn := Kept.tr (b := _) (by first | exact hkc | exact hkc.tr (kept_drew _) | exact hkc.tr (kept_drewN _ _)) kx; clear hkc kx; have hkc := hkn; clear hkn; have bxx := hbw.kept hkc; have d0 := bxx.h0; have d1 := bxx.h1; have d2 := bxx.h2)
      | (go_at_call 50; (with_reducible refine (rAt_0' G t P M mod vm _ L _ ho (svL.kept (by first | exact hkc | exact hkc.tr (kept_drew _) | exact hkc.tr (kept_drewN _ _)))).mono ?_); rintro e wx ⟨rfl, kx⟩; rw [HY.out]; have hkn := Kept.tr (b := _) (by first | exact hkc | exact hkc.tr (kept_drew _) | exact hkc.tr (kept_drewN _ _)) kx; clear hkc kx; have hkc := hkn; clear hkn; have bxx := hbw.kept hkc; have d0 := bxx.h0; have d1 := bxx.h1; have d2 := bxx.h2))
    go_ret
    exact ⟨ret_bool (by first | exact HT.out.symm | (simp; omega) | simp), hk0.tr hkc⟩
  · have ty : (y == 1) = false := by simpa using h4
    have HT : Hid (res = false) := hid (by
      cases hres : res with
      | false => rfl
      | true => exact absurd (hr.1 hres).2.2.2 h4)
    clear hr hK h4
    go_enter Try.func21, Try.ntmps21
    go_wp2_with (fail)
    rw [← hw1]
    clear hw1
    go_wp2_with (first
      | (go_at_call 32; (with_reducible refine (rkHolds_r G t P M mod vm _ _ _ s L V r true _ ho (smv.kept (by first | exact hkc | exact hkc.tr (kept_drew _) | exact hkc.tr (kept_drewN _ _))) (svs.kept (by first | exact hkc | exact hkc.tr (kept_drew _) | exact hkc.tr (kept_drewN _ _))) (svL.kept (by first | exact hkc | exact hkc.tr (kept_drew _) | exact hkc.tr (kept_drewN _ _))) (svV.kept (by first | exact hkc | exact hkc.tr (kept_drew _) | exact hkc.tr (kept_drewN _ _))) nL ns nV HK.out).mono ?_); rintro e wx ⟨rfl, kx⟩; have hkn := Kept.tr (b := _) (by first | exact hkc | exact hkc.tr (kept_drew _) | exact hkc.tr (kept_drewN _ _)) kx; clear hkc kx; have hkc := hkn; clear hkn; have bxx := hbw.kept hkc; have d0 := bxx.h0; have d1 := bxx.h1; have d2 := bxx.h2)
      | (go_at_call 37; (with_reducible refine (rDegree_p G t P M mod vm _ L _ ho (svL.kept (by first | exact hkc | exact hkc.tr (kept_drew _) | exact hkc.tr (kept_drewN _ _))) (by omega)).mono ?_); rintro e wx ⟨rfl, kx⟩; rw [D1.out]; have hkn := Kept.tr (b := _) (by first | exact hkc | exact hkc.tr (kept_drew _) | exact hkc.tr (kept_drewN _ _)) kx; clear hkc kx; have hkc := hkn; clear hkn; have bxx := hbw.kept hkc; have d0 := bxx.h0; have d1 := bxx.h1; have d2 := bxx.h2)
      | (go_at_call 37; (with_reducible refine (rDegree_p G t P M mod vm _ V _ ho (svV.kept (by first | exact hkc | exact hkc.tr (kept_drew _) | exact hkc.tr (kept_drewN _ _))) (by omega)).mono ?_); rintro e wx ⟨rfl, kx⟩; rw [D2.out]; have hkn := Kept.tr (b := _) (by first | exact hkc | exact hkc.tr (kept_drew _) | exact hkc.tr (kept_drewN _ _)) kx; clear hkc kx; have hkc := hkn; clear hkn; have bxx := hbw.kept hkc; have d0 := bxx.h0; have d1 := bxx.h1; have d2 := bxx.h2)
      | (go_at_call 50; (with_reducible refine (rAt_0' G t P M mod vm _ L _ ho (svL.kept (by first | exact hkc | exact hkc.tr (kept_drew _) | exact hkc.tr (kept_drewN _ _)))).mono ?_); rintro e wx ⟨rfl, kx⟩; rw [HY.out]; have hkn := Kept.tr (b := _) (by first | exact hkc | exact hkc.tr (kept_drew _) | exact hkc.tr (kept_drewN _ _)) kx; clear hkc kx; have hkc := hkn; clear hkn; have bxx := hbw.kept hkc; have d0 := bxx.h0; have d1 := bxx.h1; have d2 := bxx.h2))
    go_ret
    exact ⟨ret_bool (by first | exact HT.out.symm | (simp; omega) | simp), hk0.tr hkc⟩
end Go.Proofs.Ytmnbcnbhnclkhaa
namespace Go.Proofs.Ytmnbcnbhnclkhaa
open Go.RowKit Cw

set_option maxRecDepth 100000 in
set_option maxHeartbeats 2000000 in
theorem rkLocator_p (G : GFd) (t : Tabs G) (P M : Int) (mod : List Int) (vm : Value) (v : Value) (l : List Int) (w : World) (ho : Hid (Of G P M mod)) (hvm : Sl w vm mod) (hv : Sl w v l) (hl : l.length ≤ 200) :
    Calls Try.prog 25 #[.agg #[.int .i64 P, .int .i64 M, vm], v] w (OutP G t (Pl.lcf (fun i => t.e (l.getD i 0)) l.length) w) := by
  have hk0 := kept_alloc w (.cells #[.int .i64 P, .int .i64 M, vm] 24)
  have hbx := boxF_new w P M vm 24
  have smv := hvm.kept hk0
  have svp := hv.kept hk0
  have HZ1 : (w.alloc (.cells #[.int .i64 P, .int .i64 M, vm] 24)).heap.size = w.heap.size + 1 := by simp
  have HZ1 := hid HZ1
  obtain ⟨w1, hw1⟩ : ∃ w1, w1 = w.alloc (.cells #[.int .i64 P, .int .i64 M, vm] 24) := ⟨_, rfl⟩
  rw [← hw1] at hk0 hbx smv HZ1 svp
  obtain ⟨ap, capp, rfl, hcapp, ⟨hcmp, _⟩, hcp⟩ := svp
  unfold maxLen at hcmp
  have kA := kept_alloc w1 (.cells #[.int .i64 1] 3)
  have oA := own_one (w := w1) (B := 0) (x := 1) (Nat.zero_le _)
  have oA : Own (w1.alloc (.cells #[.int .i64 1] 3)) 0 (.slice (some ⟨w.heap.size + 1, 0, none⟩) 1 1) [1] := by rw [← HZ1.out]; exact oA
  have oA := own_up oA (B' := w.heap.size) (fun g n c e => by cases e; omega)
  have h0 : Hid (t.pl [1] = Pl.lcf (fun i => t.e (l.getD i 0)) 0) := hid t.pl_one
  go_enter Try.func25, Try.ntmps25
  go_wp2_with (fail)
  rw [← hw1]
  clear hw1
  go_loopw [5, 6] (fun vo vi wr => ∃ (k : Nat) (l2 : List Int), k ≤ l.length ∧ vi = .int .i64 k ∧ Own wr w.heap.size vo l2 ∧ Kept w1 wr ∧ Cano G l2 ∧ Hid (t.pl l2 = Pl.lcf (fun i => t.e (l.getD i 0)) k)) (fun _ vi _ => l.length - (intOf vi).toNat)
  case atStart => exact ⟨0, [1], by omega, rfl, oA, kA, cano_one t, h0⟩
  case round =>
    obtain ⟨k, l2, hk, rfl, hown, hkw, c2, p2⟩ := hrel
    clear oA kA h0
    have hbw := hbx.kept hkw
    have c0 := hbw.h0
    have c1 := hbw.h1
    have c3 := hbw.h2
    have smw := smv.kept hkw
    by_cases hlt : k < l.length
    · obtain ⟨bp, off, rfl, hbp, hcell⟩ := hcp (by intro e; rw [e] at hlt; simp at hlt)
      have hck := (Kept.cell' hkw hbp).trans (hcell k hlt)
      have hbp' : bp < wr.heap.size := Nat.lt_of_lt_of_le hbp hkw.size
      have hst : Hid (Pl.lcf (fun i => t.e (l.getD i 0)) (k + 1) = Pl.lcf (fun i => t.e (l.getD i 0)) k * Pl.fac (t.e (l.getD k 0))) := hid rfl
      have hwb : w.heap.size ≤ wr.heap.size := by have := hk0.size; have := hkw.size; omega
      have hlen : l2.length ≤ 1001 := by have := t.can_ln' c2 p2.out; have := Pl.lcf_ln (fun i => t.e (l.getD i 0)) k; omega
      obtain ⟨z, hz⟩ : ∃ z, z = l.getD k 0 := ⟨_, rfl⟩
      rw [← hz] at hck hst
      have hki : (k : Int) < (l.length : Int) := by omega
      have k0 : (0 : Int) ≤ (k : Int) := by omega
      clear hcell hcp hz
      go_wp2_with (fail)
      have hkc := Kept.rfl' wr
      go_region_held3 (fun w' => w'.cell? ⟨w.heap.size, 0, none⟩ = some (.int .i64 P) ∧ w'.cell? ⟨w.heap.size, 1, none⟩ = some (.int .i64 M) ∧ w'.cell? ⟨w.heap.size, 2, none⟩ = some vm ∧ w'.cell? ⟨bp, off + k, none⟩ = some (.int .i64 z)) (first | (simp [go_sem]; done) | (refine ⟨?_, ?_, ?_, ?_⟩ <;> (rw [cell_allocNe (by assumption)]; assumption)) | (simp [*]; done))
        (first
          | (go_at_call 53; (with_reducible refine (rNeg_field G t P M mod vm z _ ho.out).mono ?_); rintro e wx ⟨rfl, kx⟩; have hkn := Kept.tr (b := _) (by first | exact hkc | exact hkc.tr (kept_drew _) | exact hkc.tr (kept_drewN _ _)) kx; clear hkc kx; have hkc := hkn; clear hkn; have bxx := hbw.kept hkc; have d0 := bxx.h0; have d1 := bxx.h1; have d2 := bxx.h2; have d3 := (Kept.cell' hkc hbp').trans hck; have lt0 := bxx.lt; have lt1 := hkc.lt hbp')
          | (go_at_call 23; (with_reducible refine (rMul_p G t P M mod vm _ _ l2 [1, negG G z] _ ho (smw.kept (show Kept wr _ from (by first | exact hkc | exact hkc.tr (kept_alloc _ _) | exact (hkc.tr (kept_drew _)).tr (kept_alloc _ _) | exact (hkc.tr (kept_drewN _ _)).tr (kept_alloc _ _) | exact hkc.tr (kept_drew _) | exact hkc.tr (kept_drewN _ _)))) (hown.sl.kept (show Kept wr _ from (by first | exact hkc | exact hkc.tr (kept_alloc _ _) | exact (hkc.tr (kept_drew _)).tr (kept_alloc _ _) | exact (hkc.tr (kept_drewN _ _)).tr (kept_alloc _ _) | exact hkc.tr (kept_drew _) | exact hkc.tr (kept_drewN _ _)))) (own_two (B := 0) (Nat.zero_le _)).sl (by omega) (by simp)).mono ?_); rintro e wx ⟨v4, l4, rfl, o4, kx, c4, p4⟩; have P4 := hid p4; have o4 := o4.mono (Nat.le_trans hwb (Below.size (show Kept wr _ from (by first | exact hkc | exact hkc.tr (kept_alloc _ _) | exact (hkc.tr (kept_drew _)).tr (kept_alloc _ _) | exact (hkc.tr (kept_drewN _ _)).tr (kept_alloc _ _) | exact hkc.tr (kept_drew _) | exact hkc.tr (kept_drewN _ _))))); have hkn := Kept.tr (b := _) (show Kept wr _ from (by first | exact hkc | exact hkc.tr (kept_alloc _ _) | exact (hkc.tr (kept_drew _)).tr (kept_alloc _ _) | exact (hkc.tr (kept_drewN _ _)).tr (kept_alloc _ _) | exact hkc.tr (kept_drew _) | exact hkc.tr (kept_drewN _ _))) kx; clear p4 hkc kx; have hkc := hkn; clear hkn; have bxx := hbw.kept hkc; have d0 := bxx.h0; have d1 := bxx.h1; have d2 := bxx.h2; have d3 := (Kept.cell' hkc hbp').trans hck))
      all_goals
        go_wp2_with (fail)
        go_roundw
        case rel => exact ⟨k + 1, l4, by omega, by go_num, o4, hkw.tr hkc, c4, hid (by rw [P4.out, p2.out, hst.out, pl_fac])⟩
        case measure => simp [intOf]; omega
    · have ek : k = l.length := by omega
      have HP : Hid (t.pl l2 = Pl.lcf (fun i => t.e (l.getD i 0)) l.length) := hid (by rw [p2.out, ek])
      clear ek
      go_wp2_with (fail)
      go_ret
      exact ⟨_, l2, rfl, hown, hk0.tr hkw, c2, HP.out⟩
set_option maxRecDepth 100000 in
set_option maxHeartbeats 4000000 in
theorem rkForney_p (G : GFd) (t : Tabs G) (P M : Int) (mod : List Int) (vm : Value) (vL vV : Value) (L V : List Int) (a : Int) (w : World) (ho : Hid (Of G P M mod)) (hvm : Sl w vm mod) (hL : Sl w vL L) (hV : Sl w vV V) (nL : L.length ≤ 1000) (nV : V.length ≤ 1000) :
    Calls Try.prog 30 #[.agg #[.int .i64 P, .int .i64 M, vm], vL, vV, .int .i64 a] w fun e w' => ∃ x k, e = .returned (.tuple #[.int .i64 x, .int .i64 k]) ∧ FrP t L V a x k ∧ Kept w w' := by
  have hk0 := kept_alloc w (.cells #[.int .i64 P, .int .i64 M, vm] 24)
  have hbx := boxF_new w P M vm 24
  have smv := hvm.kept hk0
  have svL := hL.kept hk0
  have svV := hV.kept hk0
  have HZ1 : (w.alloc (.cells #[.int .i64 P, .int .i64 M, vm] 24)).heap.size = w.heap.size + 1 := by simp
  have HZ1 := hid HZ1
  obtain ⟨w1, hw1⟩ : ∃ w1, w1 = w.alloc (.cells #[.int .i64 P, .int .i64 M, vm] 24) := ⟨_, rfl⟩
  rw [← hw1] at hk0 hbx smv HZ1 svL svV
  have hbw := hbx
  have c0 := hbx.h0
  have c1 := hbx.h1
  have c2 := hbx.h2
  have hkc := Kept.rfl' w1
  obtain ⟨a', ha'⟩ : ∃ y, y = inn G.q a := ⟨_, rfl⟩
  have HA' : Hid (inn (ordS P M) a = a') := hid (by rw [ha', ← ho.out.1, ← ho.out.2.1, ← t.hq])
  have HE : Hid (t.e a' = t.e a) := hid (by rw [ha', t.e_inn])
  have hq1 := t.qb
  have HI : Hid (inn G.q a' = a') := hid (by rw [ha']; exact inn_yes (inn_bd (by omega) a))
  have HAA := hid ha'
  clear hq1 ha' hL hV
  by_cases ha : a' = 0
  · subst ha
    go_enter Try.func30, Try.ntmps30
    go_wp2_with (fail)
    rw [← hw1]
    clear hw1
    go_wp2_with (go_at_call 26; (with_reducible refine (rIn_any P M vm a _).mono ?_); rintro e wx ⟨rfl, kx⟩; rw [HA'.out]; have hkn := Kept.tr (b := _) (by first | exact hkc | exact hkc.tr (kept_drew _) | exact hkc.tr (kept_drewN _ _)) kx; clear hkc kx; have hkc := hkn; clear hkn; have bxx := hbw.kept hkc; have d0 := bxx.h0; have d1 := bxx.h1; have d2 := bxx.h2)
    go_ret2
    exact ⟨_, _, rfl, .inl ⟨HAA.out.symm, rfl, rfl⟩, hk0.tr hkc⟩
  have ta : (a' == 0) = false := by simpa using ha
  have HA : Hid (inn G.q a ≠ 0) := hid (by rw [← HAA.out]; exact ha)
  have hz : Hid (t.e (invG G a') = Cw.Fd.inv (t.e a)) := hid (by rw [t.e_invG (by rw [HI.out]; exact ha), HE.out])
  obtain ⟨z, hzz⟩ : ∃ z, z = invG G a' := ⟨_, rfl⟩
  have HZ : Hid (invG G a' = z) := hid hzz.symm
  rw [← hzz] at hz
  clear ha hzz
  obtain ⟨y, hyb, hye⟩ := t.e_surj (Pl.ev (Pl.der (t.pl L)) (Cw.Fd.inv (t.e a)))
  have HYB := hid hyb
  have HYE := hid hye
  clear hyb hye
  go_enter Try.func30, Try.ntmps30
  go_wp2_with (fail)
  rw [← hw1]
  clear hw1
  go_wp2_with (first
    | (go_at_call 26; (with_reducible refine (rIn_any P M vm a _).mono ?_); rintro e wx ⟨rfl, kx⟩; rw [HA'.out]; have hkn := Kept.tr (b := _) (by first | exact hkc | exact hkc.tr (kept_drew _) | exact hkc.tr (kept_drewN _ _)) kx; clear hkc kx; have hkc := hkn; clear hkn; have bxx := hbw.kept hkc; have d0 := bxx.h0; have d1 := bxx.h1; have d2 := bxx.h2)
    | (go_at_call 59; (with_reducible refine (rInv_p G t P M mod vm a' _ ho (smv.kept (by first | exact hkc | exact hkc.tr (kept_drew _) | exact hkc.tr (kept_drewN _ _)))).mono ?_); rintro e wx ⟨rfl, kx⟩; rw [HZ.out]; have hkn := Kept.tr (b := _) (by first | exact hkc | exact hkc.tr (kept_drew _) | exact hkc.tr (kept_drewN _ _)) kx; clear hkc kx; have hkc := hkn; clear hkn; have bxx := hbw.kept hkc; have d0 := bxx.h0; have d1 := bxx.h1; have d2 := bxx.h2))
  have hkA := hkc
  have smw := smv.kept hkc
  have sLw := svL.kept hkc
  have sVw := svV.kept hkc
  go_region_held3 (fun w' => w'.cell? ⟨w.heap.size, 0, none⟩ = some (.int .i64 P) ∧ w'.cell? ⟨w.heap.size, 1, none⟩ = some (.int .i64 M) ∧ w'.cell? ⟨w.heap.size, 2, none⟩ = some vm) (first | (simp [go_sem]; done) | (simp [*]; done))
    (first
      | (go_at_call 60; (with_reducible refine (rDerivative_p G t P M mod vm _ L _ ho (smv.kept (by first | exact hkc | exact hkc.tr (kept_drew _) | exact hkc.tr (kept_drewN _ _))) (svL.kept (by first | exact hkc | exact hkc.tr (kept_drew _) | exact hkc.tr (kept_drewN _ _))) (by omega)).mono ?_); rintro e wx ⟨v5, l5, rfl, o5, kx, c5, p5⟩; have s5 := o5.sl; have kz5 := Kept.rfl' wx; have n5 : l5.length ≤ 1000 := (by have := t.can_ln' c5 p5; have := Pl.der_ln (t.pl L); have := t.pl_ln_le L; omega); have HE5 : Hid (evL G l5 z = y) := hid (t.e_eq (t.evL_bd _ _) HYB.out (by rw [t.e_evL, p5, hz.out, HYE.out])); clear p5; have hkn := Kept.tr (b := _) (by first | exact hkc | exact hkc.tr (kept_drew _) | exact hkc.tr (kept_drewN _ _)) kx; clear hkc kx; have hkc := hkn; clear hkn; have bxx := hbw.kept hkc; have d0 := bxx.h0; have d1 := bxx.h1; have d2 := bxx.h2)
      | (go_at_call 35; (with_reducible refine (rEval_p G t P M mod vm _ l5 z _ ho (smv.kept (by first | exact hkc | exact hkc.tr (kept_drew _) | exact hkc.tr (kept_drewN _ _))) (s5.kept (by first | exact Kept.rfl' _ | exact kept_drew _ | exact kept_drewN _ _)) (by omega)).mono ?_); rintro e wx ⟨rfl, kx⟩; rw [HE5.out]; have hkn := Kept.tr (b := _) (by first | exact hkc | exact hkc.tr (kept_drew _) | exact hkc.tr (kept_drewN _ _)) kx; clear hkc kx; have hkc := hkn; clear hkn; have bxx := hbw.kept hkc; have d0 := bxx.h0; have d1 := bxx.h1; have d2 := bxx.h2))
  all_goals
    have smx := smv.kept hkc
    have sVx := svV.kept hkc
    by_cases h0 : y = 0
    · subst h0
      go_wp2_with (fail)
      go_ret2
      refine ⟨_, _, rfl, .inr (.inl ⟨HA.out, ?_, rfl, rfl⟩), hk0.tr (by first | exact hkc | exact hkc.drew | exact hkc.drewN _)⟩
      rw [← HYE.out, t.e_zero]
    have ty : (y == 0) = false := by simpa using h0
    have H0 := hid h0
    have HYI : Hid (inn G.q y ≠ 0) := hid (by rw [inn_yes HYB.out]; exact h0)
    obtain ⟨q, hq⟩ : ∃ q, q = evL G V z := ⟨_, rfl⟩
    have HQ : Hid (evL G V z = q) := hid hq.symm
    have HQE : Hid (t.e q = Pl.ev (t.pl V) (Cw.Fd.inv (t.e a))) := hid (by rw [hq, t.e_evL, hz.out])
    clear h0 hq
    go_wp2_with (fail)
    go_region_held3 (fun w' => w'.cell? ⟨w.heap.size, 0, none⟩ = some (.int .i64 P) ∧ w'.cell? ⟨w.heap.size, 1, none⟩ = some (.int .i64 M) ∧ w'.cell? ⟨w.heap.size, 2, none⟩ = some vm) (first | (simp [go_sem]; done) | (simp [*]; done))
      (first
        | (go_at_call 35; (with_reducible refine (rEval_p G t P M mod vm _ V z _ ho (smv.kept (by first | exact hkc | exact hkc.tr (kept_drew _) | exact hkc.tr (kept_drewN _ _))) (svV.kept (by first | exact hkc | exact hkc.tr (kept_drew _) | exact hkc.tr (kept_drewN _ _))) (by omega)).mono ?_); rintro e wx ⟨rfl, kx⟩; rw [HQ.out]; have hkn := Kept.tr (b := _) (by first | exact hkc | exact hkc.tr (kept_drew _) | exact hkc.tr (kept_drewN _ _)) kx; clear hkc kx; have hkc := hkn; clear hkn; have bxx := hbw.kept hkc; have d0 := bxx.h0; have d1 := bxx.h1; have d2 := bxx.h2)
        | (go_at_call 34; (with_reducible refine (rMul_field G t P M mod vm a' q _ ho.out (smv.kept (by first | exact hkc | exact hkc.tr (kept_drew _) | exact hkc.tr (kept_drewN _ _)))).mono ?_); rintro e wx ⟨rfl, kx⟩; have hkn := Kept.tr (b := _) (by first | exact hkc | exact hkc.tr (kept_drew _) | exact hkc.tr (kept_drewN _ _)) kx; clear hkc kx; have hkc := hkn; clear hkn; have bxx := hbw.kept hkc; have d0 := bxx.h0; have d1 := bxx.h1; have d2 := bxx.h2))
    all_goals
      go_wp2_with (fail)
      go_region_held3 (fun w' => w'.cell? ⟨w.heap.size, 0, none⟩ = some (.int .i64 P) ∧ w'.cell? ⟨w.heap.size, 1, none⟩ = some (.int .i64 M) ∧ w'.cell? ⟨w.heap.size, 2, none⟩ = some vm) (first | (simp [go_sem]; done) | (simp [*]; done))
        (first
          | (go_at_call 59; (with_reducible refine (rInv_p G t P M mod vm y _ ho (smv.kept (by first | exact hkc | exact hkc.tr (kept_drew _) | exact hkc.tr (kept_drewN _ _)))).mono ?_); rintro e wx ⟨rfl, kx⟩; have hkn := Kept.tr (b := _) (by first | exact hkc | exact hkc.tr (kept_drew _) | exact hkc.tr (kept_drewN _ _)) kx; clear hkc kx; have hkc := hkn; clear hkn; have bxx := hbw.kept hkc; have d0 := bxx.h0; have d1 := bxx.h1; have d2 := bxx.h2)
          | (go_at_call 34; (with_reducible refine (rMul_field G t P M mod vm (mulG G a' q) (invG G y) _ ho.out (smv.kept (by first | exact hkc | exact hkc.tr (kept_drew _) | exact hkc.tr (kept_drewN _ _)))).mono ?_); rintro e wx ⟨rfl, kx⟩; have hkn := Kept.tr (b := _) (by first | exact hkc | exact hkc.tr (kept_drew _) | exact hkc.tr (kept_drewN _ _)) kx; clear hkc kx; have hkc := hkn; clear hkn; have bxx := hbw.kept hkc; have d0 := bxx.h0; have d1 := bxx.h1; have d2 := bxx.h2)
          | (go_at_call 53; (with_reducible refine (rNeg_field G t P M mod vm (mulG G (mulG G a' q) (invG G y)) _ ho.out).mono ?_); rintro e wx ⟨rfl, kx⟩; have hkn := Kept.tr (b := _) (by first | exact hkc | exact hkc.tr (kept_drew _) | exact hkc.tr (kept_drewN _ _)) kx; clear hkc kx; have hkc := hkn; clear hkn; have bxx := hbw.kept hkc; have d0 := bxx.h0; have d1 := bxx.h1; have d2 := bxx.h2))
      all_goals
        go_wp2_with (fail)
        go_ret2
        refine ⟨_, _, rfl, .inr (.inr ⟨HA.out, ?_, rfl, t.neg_bd _, ?_⟩), hk0.tr (by first | exact hkc | exact hkc.drew | exact hkc.drewN _)⟩
        · rw [← HYE.out]; exact t.e_ne HYB.out H0.out
        · rw [t.e_neg, t.e_mul, t.e_mul, t.e_invG HYI.out, HQE.out, HE.out, HYE.out, Rg.neg_mul]
end Go.Proofs.Ytmnbcnbhnclkhaa
namespace Go.Proofs.Ytmnbcnbhnclkhaa
open Go.RowKit Cw

set_option maxRecDepth 100000 in
set_option maxHeartbeats 8000000 in
theorem rkSyn_p (G : GFd) (t : Tabs G) (P M : Int) (mod : List Int) (vm : Value) (vp vq : Value) (pts vals : List Int) (r : Nat) (w : World) (ho : Hid (Of G P M mod)) (hvm : Sl w vm mod) (hp : Sl w vp pts) (hq : Sl w vq vals) (np : pts.length ≤ 1000) (hlen : pts.length = vals.length) (hr : r ≤ 256) :
    Calls Try.prog 18 #[.agg #[.int .i64 P, .int .i64 M, vm], vp, vq, .int .i64 r] w fun e w' => ∃ v l, e = .returned v ∧ Own w' w.heap.size v l ∧ Kept w w' ∧ Cano G l ∧ SyP t pts vals r (t.pl l) := by
  have hk0 := kept_alloc w (.cells #[.int .i64 P, .int .i64 M, vm] 24)
  have hbx := boxF_new w P M vm 24
  have smv := hvm.kept hk0
  have svp := hp.kept hk0
  have svq := hq.kept hk0
  have HZ1 : (w.alloc (.cells #[.int .i64 P, .int .i64 M, vm] 24)).heap.size = w.heap.size + 1 := by simp
  have HZ1 := hid HZ1
  obtain ⟨w1, hw1⟩ : ∃ w1, w1 = w.alloc (.cells #[.int .i64 P, .int .i64 M, vm] 24) := ⟨_, rfl⟩
  rw [← hw1] at hk0 hbx smv HZ1 svp svq
  have HLN := hid hlen
  have r0 : (0 : Int) ≤ (r : Int) := by omega
  have hS0 := hid (syi_start t pts vals r)
  obtain ⟨ap, cp, rfl, hcp, ⟨hcmp, _⟩, hcellp⟩ := svp
  obtain ⟨aq, cq, rfl, hcq, ⟨hcmq, _⟩, hcellq⟩ := svq
  unfold maxLen at hcmp hcmq
  clear hp hq hlen
  go_enter Try.func18, Try.ntmps18
  go_wp2_with (first
    | (at_make; refine wpList_make_ints rfl _ _ rfl r _ _ rfl rfl rfl rfl (by omega) ?_; intro w2 ho2 hk2; rw [← hw1] at hk2; simp only [World.size_alloc] at ho2))
  clear hw1
  go_loopw [10] (fun vi wr => ∃ (i : Nat) (us : List Int), i ≤ pts.length ∧ vi = .int .i64 i ∧ Own wr (w.heap.size + 1) (.slice (some ⟨w.heap.size + 1, 0, none⟩) r r) us ∧ Kept w1 wr ∧ Hid (SyI t pts vals r i 0 us)) (fun vi _ => pts.length - (intOf vi).toNat)
  case atStart => exact ⟨0, _, by omega, rfl, ho2, hk2, hS0⟩
  case round =>
    obtain ⟨i, us, hi, rfl, hown, hkw, hS⟩ := hrel
    clear ho2 hk2 hS0
    by_cases hlt : i < pts.length
    case neg =>
      obtain rfl : i = pts.length := by omega
      have hul : us.length = r := hS.out.1
      have HUL := hid hul
      have hus : us.length ≤ 1000000 := by omega
      have hbw := hbx.kept hkw
      have c0 := hbw.h0
      have c1 := hbw.h1
      have c2 := hbw.h2
      have s1 := hown.sl
      have hwb : w.heap.size ≤ wr.heap.size := by have := hk0.size; have := hkw.size; omega
      have hkc := Kept.rfl' wr
      clear hlt hul
      go_wp2_with (go_at_call 20; (with_reducible refine (rCanon_p G t P M mod vm _ us _ ho s1 hus).mono ?_); rintro e wx ⟨v5, l5, rfl, o5, kx, c5, p5⟩; have P5 := hid p5; clear p5; have o5 := o5.mono hwb; have hkc := kx)
      go_ret
      exact ⟨_, l5, rfl, o5, (hk0.tr hkw).tr hkc, c5, hS.out.fin P5.out⟩
    have hlt2 : i < vals.length := by have := HLN.out; omega
    obtain ⟨bb, off, rfl, hbb, hcell⟩ := hcellp (by intro e; rw [e] at hlt; simp at hlt)
    obtain ⟨bv, offv, rfl, hbv, hcellv⟩ := hcellq (by intro e; rw [e] at hlt2; simp at hlt2)
    have hck := hcell i hlt
    have hcv := hcellv i hlt2
    obtain ⟨z, hz⟩ : ∃ z, z = pts.getD i 0 := ⟨_, rfl⟩
    obtain ⟨y, hy⟩ : ∃ y, y = vals.getD i 0 := ⟨_, rfl⟩
    rw [← hz] at hck
    rw [← hy] at hcv
    have HZ : Hid (eF t pts i = t.e z) := hid (by unfold eF; rw [hz])
    have HY : Hid (eF t vals i = t.e y) := hid (by unfold eF; rw [hy])
    have hii : (i : Int) < (pts.length : Int) := by omega
    have hii2 : (i : Int) < (vals.length : Int) := by omega
    have i0 : (0 : Int) ≤ (i : Int) := by omega
    have hP0 : Hid (t.e 1 = Rg.pw (eF t pts i) 0) := hid (by rw [t.e_one, Rg.pw_zero])
    have hbn : bv < w.heap.size + 1 := Nat.lt_of_lt_of_eq hbv HZ1.out
    obtain ⟨wL, hwL⟩ : ∃ x, x = wr := ⟨_, rfl⟩
    subst hwL
    clear hcell hcellv hcellp hcellq hz hy
    go_wp2_with (fail)
    go_loopw [11, 12] (fun vp vj wx => ∃ (j : Nat) (p : Int) (us : List Int), j ≤ r ∧ vj = .int .i64 j ∧ vp = .int .i64 p ∧ Own wx (w.heap.size + 1) (.slice (some ⟨w.heap.size + 1, 0, none⟩) r r) us ∧ Kept w1 wx ∧ Hid (SyI t pts vals r i j us) ∧ Hid (t.e p = Rg.pw (eF t pts i) j)) (fun _ vj _ => r - (intOf vj).toNat)
    case atStart => exact ⟨0, _, us, by omega, rfl, rfl, hown, hkw, hS, hP0⟩
    case round =>
      obtain ⟨j, p, us, hj, rfl, rfl, hown, hkw, hS, hP⟩ := hrel
      clear hP0
      by_cases hjr : j < r
      case neg =>
        obtain rfl : j = r := by omega
        have HS' := hid hS.out.next
        clear hjr
        go_wp2_with (fail)
        go_roundw
        case rel => exact ⟨i + 1, us, by omega, by go_num, hown, hkw, HS'⟩
        case measure => simp [intOf]; omega
      have hji : (j : Int) < (r : Int) := by omega
      have j0 : (0 : Int) ≤ (j : Int) := by omega
      have HUL : Hid (us.length = r) := hid hS.out.1
      have HS' := hid (hS.out.step hjr (p := mulG G y p) (by rw [t.e_mul, HY.out, hP.out]))
      have HP' : Hid (t.e (mulG G p z) = Rg.pw (eF t pts i) (j + 1)) := hid (by rw [t.e_mul, hP.out, Rg.pw_succ, HZ.out])
      obtain ⟨u, hu⟩ : ∃ u, u = us.getD j 0 := ⟨_, rfl⟩
      rw [← hu] at HS'
      have HU := hid hu
      have hbw := hbx.kept hkw
      have e0 := hbw.h0
      have e1 := hbw.h1
      have e2 := hbw.h2
      have smw := smv.kept hkw
      have hck' := (Kept.cell' hkw hbb).trans hck
      have hcv' := (Kept.cell' hkw hbv).trans hcv
      have hbb' := Kept.lt hkw hbb
      have hbv' := Kept.lt hkw hbv
      have hkc := Kept.rfl' wr
      have d4 := hown.cell (i := j) (by rw [HUL.out]; exact hjr)
      rw [← hu] at d4
      have d5 := hown.frozen j
      clear hu
      go_wp2_with (fail)
      refine wp_region_noPanic ?_
      refine wp_region_held_drew (S := fun w' => w'.cell? ⟨w.heap.size, 0, none⟩ = some (.int .i64 P) ∧ w'.cell? ⟨w.heap.size, 1, none⟩ = some (.int .i64 M) ∧ w'.cell? ⟨w.heap.size, 2, none⟩ = some vm ∧ w'.cell? ⟨bv, offv + i, none⟩ = some (.int .i64 y)) (by kernel_rfl) ?_ (fun hHeld => ?_)
      · (first | (simp [go_sem]; done) | (refine ⟨?_, ?_, ?_, ?_⟩ <;> (rw [cell_setNe _ (by omega)]; assumption)) | (simp [*]; done))
      refine wpAnyH_take (i := 0) (oi := ?oz1) (v := ?vz1) ?hiz1 (by kernel_rfl) (by kernel_rfl) (by kernel_rfl) (fun _ _ _ h => h) (Or.inl ⟨?hwz1, ?hyz1⟩) (by assumption) ?restz1
      case hiz1 => (simp only [List.getElem?_toArray, List.getElem?_cons_zero]; rfl)
      case hwz1 => rfl
      case hyz1 => (intro w hSw; (try dsimp only at hSw); go_simp; with_reducible rfl)
      try simp only [Act.put, List.setIfInBounds_toArray, List.set_cons_zero, List.set_cons_succ]
      refine wpAnyH_take (i := 1) (oi := ?oz2) (v := ?vz2) ?hiz2 (by kernel_rfl) (by kernel_rfl) (by kernel_rfl) (fun _ _ _ h => h) (Or.inl ⟨?hwz2, ?hyz2⟩) (by assumption) ?restz2
      case hiz2 => (simp only [List.getElem?_toArray, List.getElem?_cons_succ, List.getElem?_cons_zero]; rfl)
      case hwz2 => rfl
      case hyz2 => (intro w hSw; (try dsimp only at hSw); go_simp; with_reducible rfl)
      try simp only [Act.put, List.setIfInBounds_toArray, List.set_cons_zero, List.set_cons_succ]
      refine wpAnyH_take (i := 2) (oi := ?oz3) (v := ?vz3) ?hiz3 (by kernel_rfl) (by kernel_rfl) (by kernel_rfl) (fun _ _ _ h => h) (Or.inl ⟨?hwz3, ?hyz3⟩) (by assumption) ?restz3
      case hiz3 => (simp only [List.getElem?_toArray, List.getElem?_cons_succ, List.getElem?_cons_zero]; rfl)
      case hwz3 => rfl
      case hyz3 => (intro w hSw; (try dsimp only at hSw); go_simp; with_reducible rfl)
      try simp only [Act.put, List.setIfInBounds_toArray, List.set_cons_zero, List.set_cons_succ]
      refine wpAnyH_take (i := 3) (oi := ?oz4) (v := ?vz4) ?hiz4 (by kernel_rfl) (by kernel_rfl) (by kernel_rfl) (fun _ _ _ h => h) (Or.inl ⟨?hwz4, ?hyz4⟩) (by assumption) ?restz4
      case hiz4 => (simp only [List.getElem?_toArray, List.getElem?_cons_succ, List.getElem?_cons_zero]; rfl)
      case hwz4 => rfl
      case hyz4 => (intro w hSw; (try dsimp only at hSw); go_simp; with_reducible rfl)
      try simp only [Act.put, List.setIfInBounds_toArray, List.set_cons_zero, List.set_cons_succ]
      refine wpAnyH_take (i := 4) (oi := ?oz5) (v := ?vz5) ?hiz5 (by kernel_rfl) (by kernel_rfl) (by kernel_rfl) (fun _ _ _ h => h) (Or.inl ⟨?hwz5, ?hyz5⟩) (by assumption) ?restz5
      case hiz5 => (simp only [List.getElem?_toArray, List.getElem?_cons_succ, List.getElem?_cons_zero]; rfl)
      case hwz5 => rfl
      case hyz5 => (intro w hSw; (try dsimp only at hSw); go_simp; with_reducible rfl)
      try simp only [Act.put, List.setIfInBounds_toArray, List.set_cons_zero, List.set_cons_succ]
      refine wpAnyH_take (i := 5) (oi := ?oz6) (v := ?vz6) ?hiz6 (by kernel_rfl) (by kernel_rfl) (by kernel_rfl) (fun _ _ _ h => h) (Or.inl ⟨?hwz6, ?hyz6⟩) (by assumption) ?restz6
      case hiz6 => (simp only [List.getElem?_toArray, List.getElem?_cons_succ, List.getElem?_cons_zero]; rfl)
      case hwz6 => rfl
      case hyz6 => (intro w hSw; (try dsimp only at hSw); go_simp; with_reducible rfl)
      try simp only [Act.put, List.setIfInBounds_toArray, List.set_cons_zero, List.set_cons_succ]
      refine wpAnyH_take (i := 7) (oi := ?oz7) (v := ?vz7) ?hiz7 (by kernel_rfl) (by kernel_rfl) (by kernel_rfl) (fun _ _ _ h => h) (Or.inl ⟨?hwz7, ?hyz7⟩) (by assumption) ?restz7
      case hiz7 => (simp only [List.getElem?_toArray, List.getElem?_cons_succ, List.getElem?_cons_zero]; rfl)
      case hwz7 => rfl
      case hyz7 => (intro w hSw; (try dsimp only at hSw); go_simp; with_reducible rfl)
      try simp only [Act.put, List.setIfInBounds_toArray, List.set_cons_zero, List.set_cons_succ]
      refine wpAnyH_take (i := 8) (oi := ?oz8) (v := ?vz8) ?hiz8 (by kernel_rfl) (by kernel_rfl) (by kernel_rfl) (fun _ _ _ h => h) (Or.inl ⟨?hwz8, ?hyz8⟩) (by assumption) ?restz8
      case hiz8 => (simp only [List.getElem?_toArray, List.getElem?_cons_succ, List.getElem?_cons_zero]; rfl)
      case hwz8 => rfl
      case hyz8 => (intro w hSw; (try dsimp only at hSw); go_simp; with_reducible rfl)
      try simp only [Act.put, List.setIfInBounds_toArray, List.set_cons_zero, List.set_cons_succ]
      refine wpAnyH_take (i := 9) (oi := ?oz9) (v := ?vz9) ?hiz9 (by kernel_rfl) (by kernel_rfl) (by kernel_rfl) (fun _ _ _ h => h) (Or.inl ⟨?hwz9, ?hyz9⟩) (by assumption) ?restz9
      case hiz9 => (simp only [List.getElem?_toArray, List.getElem?_cons_succ, List.getElem?_cons_zero]; rfl)
      case hwz9 => rfl
      case hyz9 => (intro w hSw; (try dsimp only at hSw); go_simp; with_reducible rfl)
      try simp only [Act.put, List.setIfInBounds_toArray, List.set_cons_zero, List.set_cons_succ]
      refine wpAnyH_take (i := 10) (oi := ?oz10) (v := ?vz10) ?hiz10 (by kernel_rfl) (by kernel_rfl) (by kernel_rfl) (fun _ _ _ h => h) (Or.inl ⟨?hwz10, ?hyz10⟩) (by assumption) ?restz10
      case hiz10 => (simp only [List.getElem?_toArray, List.getElem?_cons_succ, List.getElem?_cons_zero]; rfl)
      case hwz10 => rfl
      case hyz10 => (intro w hSw; (try dsimp only at hSw); go_simp; with_reducible rfl)
      try simp only [Act.put, List.setIfInBounds_toArray, List.set_cons_zero, List.set_cons_succ]
      refine wpAnyH_take (i := 11) (oi := ?oz11) (v := ?vz11) ?hiz11 (by kernel_rfl) (by kernel_rfl) (by kernel_rfl) (fun _ _ _ h => h) (Or.inl ⟨?hwz11, ?hyz11⟩) (by assumption) ?restz11
      case hiz11 => (simp only [List.getElem?_toArray, List.getElem?_cons_succ, List.getElem?_cons_zero]; rfl)
      case hwz11 => rfl
      case hyz11 => (intro w hSw; (try dsimp only at hSw); go_simp; with_reducible rfl)
      try simp only [Act.put, List.setIfInBounds_toArray, List.set_cons_zero, List.set_cons_succ]
      refine wpAnyH_take (i := 12) (oi := ?oz12) (v := ?vz12) ?hiz12 (by kernel_rfl) (by kernel_rfl) (by kernel_rfl) (fun _ _ _ h => h) (Or.inl ⟨?hwz12, ?hyz12⟩) (by assumption) ?restz12
      case hiz12 => (simp only [List.getElem?_toArray, List.getElem?_cons_succ, List.getElem?_cons_zero]; rfl)
      case hwz12 => rfl
      case hyz12 => (intro w hSw; (try dsimp only at hSw); go_simp; with_reducible rfl)
      try simp only [Act.put, List.setIfInBounds_toArray, List.set_cons_zero, List.set_cons_succ]
      refine wpAnyH_ready (rs := [6, 13]) (by kernel_rfl) (by simp) ?_
      refine AllReadyH.cons (o := ?oAt13) ?hAt13 (fun K hK => ?bAt13) (AllReadyH.cons (o := ?oBt13) ?hBt13 (fun K hK => ?bBt13) AllReadyH.nil)
      case hAt13 => (simp only [List.getElem?_toArray, List.getElem?_cons_succ, List.getElem?_cons_zero]; rfl)
      case hBt13 => (simp only [List.getElem?_toArray, List.getElem?_cons_succ, List.getElem?_cons_zero]; rfl)
      case bAt13 =>
        go_simp
        refine hK.out _ _ ?_ (fun hHeld => ?_)
        · first | assumption | (first | (simp [go_sem]; done) | (refine ⟨?_, ?_, ?_, ?_⟩ <;> (rw [cell_setNe _ (by omega)]; assumption)) | (simp [*]; done))
        clear hK K
        try simp only [Act.put, List.setIfInBounds_toArray, List.set_cons_zero, List.set_cons_succ]
        refine wpAnyH_ready (rs := [13]) (by kernel_rfl) (by simp) ?_
        refine AllReadyH.cons (o := ?oy14) ?hy14 (fun K hK => ?by14) AllReadyH.nil
        case hy14 => (simp only [List.getElem?_toArray, List.getElem?_cons_succ, List.getElem?_cons_zero]; rfl)
        go_simp
        go_at_call 34; (with_reducible refine (rMul_field G t P M mod vm y p _ ho.out (smw.kept (by first | exact hkc | exact hkc.tr (kept_drew _) | exact hkc.tr (kept_drewN _ _)))).mono ?_); rintro e wx ⟨rfl, kx⟩; have hkn := Kept.tr (b := _) (by first | exact hkc | exact hkc.tr (kept_drew _) | exact hkc.tr (kept_drewN _ _)) kx; clear hkc kx; have hkc := hkn; clear hkn; have bxx := hbw.kept hkc; have d0 := bxx.h0; have d1 := bxx.h1; have d2 := bxx.h2; have d3 := (Kept.cell' hkc hbv').trans hcv'; have ownx := hown.kept hkc; have d4 := ownx.cell (i := j) (by rw [HUL.out]; exact hjr); rw [← HU.out] at d4; have d5 := ownx.frozen j
        try go_wp2_with (fail)
        refine hK.out _ _ ?_ (fun hHeld => ?_)
        · first | assumption | (first | (simp [go_sem]; done) | (refine ⟨?_, ?_, ?_, ?_⟩ <;> (rw [cell_setNe _ (by omega)]; assumption)) | (simp [*]; done))
        clear hK K
        try simp only [Act.put, List.setIfInBounds_toArray, List.set_cons_zero, List.set_cons_succ]
        refine wpAnyH_ready (rs := [14]) (by kernel_rfl) (by simp) ?_
        refine AllReadyH.cons (o := ?oy15) ?hy15 (fun K hK => ?by15) AllReadyH.nil
        case hy15 => (simp only [List.getElem?_toArray, List.getElem?_cons_succ, List.getElem?_cons_zero]; rfl)
        go_simp
        go_at_call 45; (with_reducible refine (rAdd_field G t P M mod vm u (mulG G y p) _ ho.out).mono ?_); rintro e wx ⟨rfl, kx⟩; have hkn := Kept.tr (b := _) (by first | exact hkc | exact hkc.tr (kept_drew _) | exact hkc.tr (kept_drewN _ _)) kx; clear hkc kx; have hkc := hkn; clear hkn; have bxx := hbw.kept hkc; have d0 := bxx.h0; have d1 := bxx.h1; have d2 := bxx.h2; have d3 := (Kept.cell' hkc hbv').trans hcv'; have ownx := hown.kept hkc; have d4 := ownx.cell (i := j) (by rw [HUL.out]; exact hjr); rw [← HU.out] at d4; have d5 := ownx.frozen j
        try go_wp2_with (fail)
        refine hK.out _ _ ?_ (fun hHeld => ?_)
        · first | assumption | (first | (simp [go_sem]; done) | (refine ⟨?_, ?_, ?_, ?_⟩ <;> (rw [cell_setNe _ (by omega)]; assumption)) | (simp [*]; done))
        clear hK K
        try simp only [Act.put, List.setIfInBounds_toArray, List.set_cons_zero, List.set_cons_succ]
        refine wpAnyH_take (i := 15) (oi := ?oz16) (v := ?vz16) ?hiz16 (by kernel_rfl) (by kernel_rfl) (by kernel_rfl) (fun _ _ _ h => h) (Or.inl ⟨?hwz16, ?hyz16⟩) (by assumption) ?restz16
        case hiz16 => (simp only [List.getElem?_toArray, List.getElem?_cons_succ, List.getElem?_cons_zero]; rfl)
        case hwz16 => rfl
        case hyz16 => (intro w hSw; (try dsimp only at hSw); go_simp; with_reducible rfl)
        try simp only [Act.put, List.setIfInBounds_toArray, List.set_cons_zero, List.set_cons_succ]
        refine wpAnyH_ready (rs := [16]) (by kernel_rfl) (by simp) ?_
        refine AllReadyH.cons (o := ?oy17) ?hy17 (fun K hK => ?by17) AllReadyH.nil
        case hy17 => (simp only [List.getElem?_toArray, List.getElem?_cons_succ, List.getElem?_cons_zero]; rfl)
        go_simp
        refine hK.out _ _ ?_ (fun hHeld => ?_)
        · first | assumption | (first | (simp [go_sem]; done) | (refine ⟨?_, ?_, ?_, ?_⟩ <;> (rw [cell_setNe _ (by omega)]; assumption)) | (simp [*]; done))
        clear hK K
        try simp only [Act.put, List.setIfInBounds_toArray, List.set_cons_zero, List.set_cons_succ]
        refine wpAnyH_done (by kernel_rfl) ?_ _
        refine NoPanic.normal ?_
        go_wp2_with (fail)
        have ownS := ownx.set j (addG G u (mulG G y p))
        have kS : Kept w1 _ := Below.setCell (hkw.tr hkc) (p := ⟨w.heap.size + 1, j, none⟩) (Nat.le_of_eq HZ1.out) (.int .i64 (addG G u (mulG G y p)))
        first | (have ownT := ownS; have kT := kS; go_wp2_with (fail); done) | skip
        have hbw9 := hbx.kept kS
        have hbw := hbw9
        have f0 := hbw9.h0
        have f1 := hbw9.h1
        have f2 := hbw9.h2
        have smx := smv.kept kS
        have hck'' := (Kept.cell' kS hbb).trans hck
        have hbb'' := Kept.lt kS hbb
        have hkc := Kept.rfl' (wx.setCell ⟨w.heap.size + 1, j, none⟩ (.int .i64 (addG G u (mulG G y p))))
        go_region_held3 (fun w' => w'.cell? ⟨w.heap.size, 0, none⟩ = some (.int .i64 P) ∧ w'.cell? ⟨w.heap.size, 1, none⟩ = some (.int .i64 M) ∧ w'.cell? ⟨w.heap.size, 2, none⟩ = some vm ∧ w'.cell? ⟨bb, off + i, none⟩ = some (.int .i64 z)) (first | (simp [go_sem]; done) | (simp [*]; done))
          (first
            | (go_at_call 34; (with_reducible refine (rMul_field G t P M mod vm p z _ ho.out (smx.kept (by first | exact hkc | exact hkc.tr (kept_drew _) | exact hkc.tr (kept_drewN _ _)))).mono ?_); rintro e wx ⟨rfl, kx⟩; have hkn := Kept.tr (b := _) (by first | exact hkc | exact hkc.tr (kept_drew _) | exact hkc.tr (kept_drewN _ _)) kx; clear hkc kx; have hkc := hkn; clear hkn; have bxx := hbw.kept hkc; have d0 := bxx.h0; have d1 := bxx.h1; have d2 := bxx.h2; have d3 := (Kept.cell' hkc hbb'').trans hck''))
        all_goals
          go_wp2_with (fail)
          go_roundw
          case rel => exact ⟨j + 1, mulG G p z, _, by omega, by go_num, rfl, by first | exact ownS.kept hkc | exact (ownS.kept hkc).drew | exact (ownS.kept hkc).drewN _, by first | exact kS.tr hkc | exact (kS.tr hkc).drew | exact (kS.tr hkc).drewN _, HS', HP'⟩
          case measure => simp [intOf]; omega
      case bBt13 =>
        go_simp
        go_at_call 34; (with_reducible refine (rMul_field G t P M mod vm y p _ ho.out (smw.kept (by first | exact hkc | exact hkc.tr (kept_drew _) | exact hkc.tr (kept_drewN _ _)))).mono ?_); rintro e wx ⟨rfl, kx⟩; have hkn := Kept.tr (b := _) (by first | exact hkc | exact hkc.tr (kept_drew _) | exact hkc.tr (kept_drewN _ _)) kx; clear hkc kx; have hkc := hkn; clear hkn; have bxx := hbw.kept hkc; have d0 := bxx.h0; have d1 := bxx.h1; have d2 := bxx.h2; have d3 := (Kept.cell' hkc hbv').trans hcv'; have ownx := hown.kept hkc; have d4 := ownx.cell (i := j) (by rw [HUL.out]; exact hjr); rw [← HU.out] at d4; have d5 := ownx.frozen j
        try go_wp2_with (fail)
        refine hK.out _ _ ?_ (fun hHeld => ?_)
        · first | assumption | (first | (simp [go_sem]; done) | (refine ⟨?_, ?_, ?_, ?_⟩ <;> (rw [cell_setNe _ (by omega)]; assumption)) | (simp [*]; done))
        clear hK K
        try simp only [Act.put, List.setIfInBounds_toArray, List.set_cons_zero, List.set_cons_succ]
        refine wpAnyH_ready (rs := [6]) (by kernel_rfl) (by simp) ?_
        refine AllReadyH.cons (o := ?oy18) ?hy18 (fun K hK => ?by18) AllReadyH.nil
        case hy18 => (simp only [List.getElem?_toArray, List.getElem?_cons_succ, List.getElem?_cons_zero]; rfl)
        go_simp
        refine hK.out _ _ ?_ (fun hHeld => ?_)
        · first | assumption | (first | (simp [go_sem]; done) | (refine ⟨?_, ?_, ?_, ?_⟩ <;> (rw [cell_setNe _ (by omega)]; assumption)) | (simp [*]; done))
        clear hK K
        try simp only [Act.put, List.setIfInBounds_toArray, List.set_cons_zero, List.set_cons_succ]
        refine wpAnyH_ready (rs := [14]) (by kernel_rfl) (by simp) ?_
        refine AllReadyH.cons (o := ?oy19) ?hy19 (fun K hK => ?by19) AllReadyH.nil
        case hy19 => (simp only [List.getElem?_toArray, List.getElem?_cons_succ, List.getElem?_cons_zero]; rfl)
        go_simp
        go_at_call 45; (with_reducible refine (rAdd_field G t P M mod vm u (mulG G y p) _ ho.out).mono ?_); rintro e wx ⟨rfl, kx⟩; have hkn := Kept.tr (b := _) (by first | exact hkc | exact hkc.tr (kept_drew _) | exact hkc.tr (kept_drewN _ _)) kx; clear hkc kx; have hkc := hkn; clear hkn; have bxx := hbw.kept hkc; have d0 := bxx.h0; have d1 := bxx.h1; have d2 := bxx.h2; have d3 := (Kept.cell' hkc hbv').trans hcv'; have ownx := hown.kept hkc; have d4 := ownx.cell (i := j) (by rw [HUL.out]; exact hjr); rw [← HU.out] at d4; have d5 := ownx.frozen j
        try go_wp2_with (fail)
        refine hK.out _ _ ?_ (fun hHeld => ?_)
        · first | assumption | (first | (simp [go_sem]; done) | (refine ⟨?_, ?_, ?_, ?_⟩ <;> (rw [cell_setNe _ (by omega)]; assumption)) | (simp [*]; done))
        clear hK K
        try simp only [Act.put, List.setIfInBounds_toArray, List.set_cons_zero, List.set_cons_succ]
        refine wpAnyH_take (i := 15) (oi := ?oz20) (v := ?vz20) ?hiz20 (by kernel_rfl) (by kernel_rfl) (by kernel_rfl) (fun _ _ _ h => h) (Or.inl ⟨?hwz20, ?hyz20⟩) (by assumption) ?restz20
        case hiz20 => (simp only [List.getElem?_toArray, List.getElem?_cons_succ, List.getElem?_cons_zero]; rfl)
        case hwz20 => rfl
        case hyz20 => (intro w hSw; (try dsimp only at hSw); go_simp; with_reducible rfl)
        try simp only [Act.put, List.setIfInBounds_toArray, List.set_cons_zero, List.set_cons_succ]
        refine wpAnyH_ready (rs := [16]) (by kernel_rfl) (by simp) ?_
        refine AllReadyH.cons (o := ?oy21) ?hy21 (fun K hK => ?by21) AllReadyH.nil
        case hy21 => (simp only [List.getElem?_toArray, List.getElem?_cons_succ, List.getElem?_cons_zero]; rfl)
        go_simp
        refine hK.out _ _ ?_ (fun hHeld => ?_)
        · first | assumption | (first | (simp [go_sem]; done) | (refine ⟨?_, ?_, ?_, ?_⟩ <;> (rw [cell_setNe _ (by omega)]; assumption)) | (simp [*]; done))
        clear hK K
        try simp only [Act.put, List.setIfInBounds_toArray, List.set_cons_zero, List.set_cons_succ]
        refine wpAnyH_done (by kernel_rfl) ?_ _
        refine NoPanic.normal ?_
        go_wp2_with (fail)
        have ownS := ownx.set j (addG G u (mulG G y p))
        have kS : Kept w1 _ := Below.setCell (hkw.tr hkc) (p := ⟨w.heap.size + 1, j, none⟩) (Nat.le_of_eq HZ1.out) (.int .i64 (addG G u (mulG G y p)))
        first | (have ownT := ownS; have kT := kS; go_wp2_with (fail); done) | skip
        have hbw9 := hbx.kept kS
        have hbw := hbw9
        have f0 := hbw9.h0
        have f1 := hbw9.h1
        have f2 := hbw9.h2
        have smx := smv.kept kS
        have hck'' := (Kept.cell' kS hbb).trans hck
        have hbb'' := Kept.lt kS hbb
        have hkc := Kept.rfl' (wx.setCell ⟨w.heap.size + 1, j, none⟩ (.int .i64 (addG G u (mulG G y p))))
        go_region_held3 (fun w' => w'.cell? ⟨w.heap.size, 0, none⟩ = some (.int .i64 P) ∧ w'.cell? ⟨w.heap.size, 1, none⟩ = some (.int .i64 M) ∧ w'.cell? ⟨w.heap.size, 2, none⟩ = some vm ∧ w'.cell? ⟨bb, off + i, none⟩ = some (.int .i64 z)) (first | (simp [go_sem]; done) | (simp [*]; done))
          (first
            | (go_at_call 34; (with_reducible refine (rMul_field G t P M mod vm p z _ ho.out (smx.kept (by first | exact hkc | exact hkc.tr (kept_drew _) | exact hkc.tr (kept_drewN _ _)))).mono ?_); rintro e wx ⟨rfl, kx⟩; have hkn := Kept.tr (b := _) (by first | exact hkc | exact hkc.tr (kept_drew _) | exact hkc.tr (kept_drewN _ _)) kx; clear hkc kx; have hkc := hkn; clear hkn; have bxx := hbw.kept hkc; have d0 := bxx.h0; have d1 := bxx.h1; have d2 := bxx.h2; have d3 := (Kept.cell' hkc hbb'').trans hck''))
        all_goals
          go_wp2_with (fail)
          go_roundw
          case rel => exact ⟨j + 1, mulG G p z, _, by omega, by go_num, rfl, by first | exact ownS.kept hkc | exact (ownS.kept hkc).drew | exact (ownS.kept hkc).drewN _, by first | exact kS.tr hkc | exact (kS.tr hkc).drew | exact (kS.tr hkc).drewN _, HS', HP'⟩
          case measure => simp [intOf]; omega
end Go.Proofs.Ytmnbcnbhnclkhaa
namespace Go.Proofs.Ytmnbcnbhnclkhaa
open Go.RowKit Cw

set_option maxRecDepth 100000 in
set_option maxHeartbeats 4000000 in
theorem rkDist_r (G : GFd) (t : Tabs G) (P M : Int) (mod : List Int) (vm : Value) (vM vx vy : Value) (m xs ys : List Int) (w : World) (ho : Hid (Of G P M mod)) (hvm : Sl w vm mod) (hM : Sl w vM m) (hx : Sl w vx xs) (hy : Sl w vy ys) (hlen : ys.length = xs.length) (nx : xs.length ≤ 1000) (nm : m.length ≤ 1000) :
    Calls Try.prog 38 #[.agg #[.int .i64 P, .int .i64 M, vm], vM, vx, vy] w fun e w' => e = .returned (.int .i64 (Pl.cnt (dsS G m xs ys) xs.length : Nat)) ∧ Kept w w' := by
  have hk0 := kept_alloc w (.cells #[.int .i64 P, .int .i64 M, vm] 24)
  have hbx := boxF_new w P M vm 24
  have smv := hvm.kept hk0
  have svM := hM.kept hk0
  have svx := hx.kept hk0
  have svy := hy.kept hk0
  have HZ1 : (w.alloc (.cells #[.int .i64 P, .int .i64 M, vm] 24)).heap.size = w.heap.size + 1 := by simp
  have HZ1 := hid HZ1
  obtain ⟨w1, hw1⟩ : ∃ w1, w1 = w.alloc (.cells #[.int .i64 P, .int .i64 M, vm] 24) := ⟨_, rfl⟩
  rw [← hw1] at hk0 hbx smv HZ1 svM svx svy
  have HLEN := hid hlen
  obtain ⟨ax, cx, rfl, hcx, ⟨hcmx, _⟩, hcellx⟩ := svx
  obtain ⟨ay, cy, rfl, hcy, ⟨hcmy, _⟩, hcelly⟩ := svy
  unfold maxLen at hcmx hcmy
  clear hlen hM hx hy
  go_enter Try.func38, Try.ntmps38
  go_wp2_with (fail)
  rw [← hw1]
  clear hw1
  go_loopw [9, 10] (fun vn vi wr => ∃ i : Nat, i ≤ xs.length ∧ vi = .int .i64 i ∧ vn = .int .i64 (Pl.cnt (dsS G m xs ys) i : Nat) ∧ Kept w1 wr) (fun _ vi _ => xs.length - (intOf vi).toNat)
  case atStart => exact ⟨0, by omega, rfl, rfl, Kept.rfl' _⟩
  case round =>
    obtain ⟨i, hi, rfl, rfl, hkw⟩ := hrel
    have hbw := hbx.kept hkw
    have c0 := hbw.h0
    have c1 := hbw.h1
    have c2 := hbw.h2
    have smw := smv.kept hkw
    have sMw := svM.kept hkw
    by_cases hlt : i < xs.length
    case neg =>
      have ei : i = xs.length := by omega
      have hge : (xs.length : Int) ≤ (i : Int) := by omega
      have HE : Hid (Pl.cnt (dsS G m xs ys) i = Pl.cnt (dsS G m xs ys) xs.length) := hid (by rw [ei])
      clear hlt ei
      go_wp2_with (fail)
      go_ret
      exact ⟨ret_int (by rw [HE.out]), hk0.tr hkw⟩
    have hlt2 : i < ys.length := by have := HLEN.out; omega
    obtain ⟨bb, off, rfl, hbb, hcell⟩ := hcellx (by intro e; rw [e] at hlt; simp at hlt)
    obtain ⟨bv, offv, rfl, hbv, hcellv⟩ := hcelly (by intro e; rw [e] at hlt2; simp at hlt2)
    have hck := (Kept.cell' hkw hbb).trans (hcell i hlt)
    have hcv := (Kept.cell' hkw hbv).trans (hcellv i hlt2)
    have hbb' := Kept.lt hkw hbb
    have hbv' := Kept.lt hkw hbv
    have hs : dsS G m xs ys i = decide (evL G m (xs.getD i 0) ≠ inn G.q (ys.getD i 0)) := rfl
    obtain ⟨z, hz⟩ : ∃ z, z = xs.getD i 0 := ⟨_, rfl⟩
    obtain ⟨y, hy⟩ : ∃ y, y = ys.getD i 0 := ⟨_, rfl⟩
    rw [← hz] at hck hs
    rw [← hy] at hcv hs
    obtain ⟨p, hp⟩ : ∃ p, p = evL G m z := ⟨_, rfl⟩
    obtain ⟨u, hu⟩ : ∃ u, u = inn G.q y := ⟨_, rfl⟩
    rw [← hp, ← hu] at hs
    have HPP : Hid (evL G m z = p) := hid hp.symm
    have HUU : Hid (inn (ordS P M) y = u) := hid (by rw [hu, ← ho.out.1, ← ho.out.2.1, ← t.hq])
    have hii : (i : Int) < (xs.length : Int) := by omega
    have hii2 : (i : Int) < (ys.length : Int) := by omega
    have i0 : (0 : Int) ≤ (i : Int) := by omega
    have hcn := cnt_le (dsS G m xs ys) i
    have hst : Pl.cnt (dsS G m xs ys) (i + 1) = Pl.cnt (dsS G m xs ys) i + if dsS G m xs ys i then 1 else 0 := rfl
    obtain ⟨q, hq⟩ : ∃ q, q = Pl.cnt (dsS G m xs ys) i := ⟨_, rfl⟩
    rw [← hq] at hst hcn ⊢
    clear hcell hcellv hz hy hp hu
    by_cases hpu : p = u
    · subst hpu
      have HS : Hid (Pl.cnt (dsS G m xs ys) (i + 1) = q) := hid (by rw [hst, hs]; simp)
      clear hst hs hq
      go_wp2_with (fail)
      have hkc := Kept.rfl' wr
      go_region_held3 (fun w' => w'.cell? ⟨w.heap.size, 0, none⟩ = some (.int .i64 P) ∧ w'.cell? ⟨w.heap.size, 1, none⟩ = some (.int .i64 M) ∧ w'.cell? ⟨w.heap.size, 2, none⟩ = some vm ∧ w'.cell? ⟨bb, off + i, none⟩ = some (.int .i64 z) ∧ w'.cell? ⟨bv, offv + i, none⟩ = some (.int .i64 y)) (first | (simp [go_sem]; done) | (simp [*]; done))
        (first
          | (go_at_call 35; (with_reducible refine (rEval_p G t P M mod vm _ m z _ ho (smw.kept (by first | exact hkc | exact hkc.tr (kept_drew _) | exact hkc.tr (kept_drewN _ _))) (sMw.kept (by first | exact hkc | exact hkc.tr (kept_drew _) | exact hkc.tr (kept_drewN _ _))) (by omega)).mono ?_); rintro e wx ⟨rfl, kx⟩; rw [HPP.out]; have hkn := Kept.tr (b := _) (by first | exact hkc | exact hkc.tr (kept_drew _) | exact hkc.tr (kept_drewN _ _)) kx; clear hkc kx; have hkc := hkn; clear hkn; have bxx := hbw.kept hkc; have d0 := bxx.h0; have d1 := bxx.h1; have d2 := bxx.h2; have d3 := (Kept.cell' hkc hbb').trans hck; have d4 := (Kept.cell' hkc hbv').trans hcv)
          | (go_at_call 26; (with_reducible refine (rIn_any P M vm y _).mono ?_); rintro e wx ⟨rfl, kx⟩; rw [HUU.out]; have hkn := Kept.tr (b := _) (by first | exact hkc | exact hkc.tr (kept_drew _) | exact hkc.tr (kept_drewN _ _)) kx; clear hkc kx; have hkc := hkn; clear hkn; have bxx := hbw.kept hkc; have d0 := bxx.h0; have d1 := bxx.h1; have d2 := bxx.h2; have d3 := (Kept.cell' hkc hbb').trans hck; have d4 := (Kept.cell' hkc hbv').trans hcv))
      all_goals
        go_wp2_with (fail)
        go_roundw
        case rel => exact ⟨i + 1, by omega, by go_num, by rw [HS.out], by first | exact hkw.tr hkc | exact (hkw.tr hkc).drew | exact (hkw.tr hkc).drewN _⟩
        case measure => simp [intOf]; omega
    · have HS : Hid (Pl.cnt (dsS G m xs ys) (i + 1) = q + 1) := hid (by rw [hst, hs]; simp [hpu])
      have tpu : (p != u) = true := by simpa using hpu
      have tpu2 : (p == u) = false := by simpa using hpu
      clear hst hs hq
      go_wp2_with (fail)
      have hkc := Kept.rfl' wr
      go_region_held3 (fun w' => w'.cell? ⟨w.heap.size, 0, none⟩ = some (.int .i64 P) ∧ w'.cell? ⟨w.heap.size, 1, none⟩ = some (.int .i64 M) ∧ w'.cell? ⟨w.heap.size, 2, none⟩ = some vm ∧ w'.cell? ⟨bb, off + i, none⟩ = some (.int .i64 z) ∧ w'.cell? ⟨bv, offv + i, none⟩ = some (.int .i64 y)) (first | (simp [go_sem]; done) | (simp [*]; done))
        (first
          | (go_at_call 35; (with_reducible refine (rEval_p G t P M mod vm _ m z _ ho (smw.kept (by first | exact hkc | exact hkc.tr (kept_drew _) | exact hkc.tr (kept_drewN _ _))) (sMw.kept (by first | exact hkc | exact hkc.tr (kept_drew _) | exact hkc.tr (kept_drewN _ _))) (by omega)).mono ?_); rintro e wx ⟨rfl, kx⟩; rw [HPP.out]; have hkn := Kept.tr (b := _) (by first | exact hkc | exact hkc.tr (kept_drew _) | exact hkc.tr (kept_drewN _ _)) kx; clear hkc kx; have hkc := hkn; clear hkn; have bxx := hbw.kept hkc; have d0 := bxx.h0; have d1 := bxx.h1; have d2 := bxx.h2; have d3 := (Kept.cell' hkc hbb').trans hck; have d4 := (Kept.cell' hkc hbv').trans hcv)
          | (go_at_call 26; (with_reducible refine (rIn_any P M vm y _).mono ?_); rintro e wx ⟨rfl, kx⟩; rw [HUU.out]; have hkn := Kept.tr (b := _) (by first | exact hkc | exact hkc.tr (kept_drew _) | exact hkc.tr (kept_drewN _ _)) kx; clear hkc kx; have hkc := hkn; clear hkn; have bxx := hbw.kept hkc; have d0 := bxx.h0; have d1 := bxx.h1; have d2 := bxx.h2; have d3 := (Kept.cell' hkc hbb').trans hck; have d4 := (Kept.cell' hkc hbv').trans hcv))
      all_goals
        go_wp2_with (fail)
        go_roundw
        case rel => exact ⟨i + 1, by omega, by go_num, by rw [HS.out]; exact val_int (by omega), by first | exact hkw.tr hkc | exact (hkw.tr hkc).drew | exact (hkw.tr hkc).drewN _⟩
        case measure => simp [intOf]; omega
/-- The elements of a list differ. -/
def DifP (G : GFd) (l : List Int) : Prop := ∀ i j, j < i → i < l.length → inn G.q (l.getD i 0) ≠ inn G.q (l.getD j 0)
set_option maxRecDepth 100000 in
set_option maxHeartbeats 4000000 in
theorem rkDif_r (G : GFd) (t : Tabs G) (P M : Int) (mod : List Int) (vm : Value) (v : Value) (l : List Int) (res : Bool) (w : World) (ho : Hid (Of G P M mod)) (hv : Sl w v l) (nl : l.length ≤ 1000) (hr : BIf res (DifP G l)) :
    Calls Try.prog 29 #[.agg #[.int .i64 P, .int .i64 M, vm], v] w fun e w' => e = .returned (.bool res) ∧ Kept w w' := by
  have hk0 := kept_alloc w (.cells #[.int .i64 P, .int .i64 M, vm] 24)
  have hbx := boxF_new w P M vm 24
  have svl := hv.kept hk0
  have HZ1 : (w.alloc (.cells #[.int .i64 P, .int .i64 M, vm] 24)).heap.size = w.heap.size + 1 := by simp
  have HZ1 := hid HZ1
  obtain ⟨w1, hw1⟩ : ∃ w1, w1 = w.alloc (.cells #[.int .i64 P, .int .i64 M, vm] 24) := ⟨_, rfl⟩
  rw [← hw1] at hk0 hbx HZ1 svl
  have HR := hid hr
  obtain ⟨a, cp, rfl, hcp, ⟨hcm, _⟩, hcell0⟩ := svl
  unfold maxLen at hcm
  clear hr hv
  go_enter Try.func29, Try.ntmps29
  go_wp2_with (fail)
  rw [← hw1]
  clear hw1
  go_loopw [5] (fun vi wr => ∃ i : Nat, i ≤ l.length ∧ vi = .int .i64 i ∧ Kept w1 wr ∧ Hid (∀ a b, b < a → a < i → inn G.q (l.getD a 0) ≠ inn G.q (l.getD b 0))) (fun vi _ => l.length - (intOf vi).toNat)
  case atStart => exact ⟨0, by omega, rfl, Kept.rfl' _, hid (fun a b h1 h2 => by omega)⟩
  case round =>
    obtain ⟨i, hi, rfl, hkw, hI⟩ := hrel
    by_cases hlt : i < l.length
    case neg =>
      have HT : Hid (res = true) := hid ((show res = true ↔ _ from HR.out).2 (fun a b h1 h2 => hI.out a b h1 (by omega)))
      have hge : (l.length : Int) ≤ (i : Int) := by omega
      clear hlt
      go_wp2_with (fail)
      go_ret
      exact ⟨ret_bool HT.out.symm, hk0.tr hkw⟩
    obtain ⟨bb, off, rfl, hbb, hcell⟩ := hcell0 (by intro e; rw [e] at hlt; simp at hlt)
    have hii : (i : Int) < (l.length : Int) := by omega
    have i0 : (0 : Int) ≤ (i : Int) := by omega
    obtain ⟨x, hx⟩ : ∃ x, x = l.getD i 0 := ⟨_, rfl⟩
    have hcx := hcell i hlt
    rw [← hx] at hcx
    obtain ⟨x', hx'⟩ : ∃ y, y = inn G.q x := ⟨_, rfl⟩
    have HX : Hid (inn G.q (l.getD i 0) = x') := hid (by rw [hx', hx])
    have HXO : Hid (inn (ordS P M) x = x') := hid (by rw [hx', ← ho.out.1, ← ho.out.2.1, ← t.hq])
    have HC := hid hcell
    obtain ⟨wL, hwL⟩ : ∃ x, x = wr := ⟨_, rfl⟩
    subst hwL
    clear hcell hcell0 hx hx'
    go_wp2_with (fail)
    go_loopw [6] (fun vj wx => ∃ j : Nat, j ≤ i ∧ vj = .int .i64 j ∧ Kept w1 wx ∧ Hid (∀ b, b < j → x' ≠ inn G.q (l.getD b 0))) (fun vj _ => i - (intOf vj).toNat)
    case atStart => exact ⟨0, by omega, rfl, hkw, hid (fun b h => by omega)⟩
    case round =>
      obtain ⟨j, hj, rfl, hkw, hJ⟩ := hrel
      have hbw := hbx.kept hkw
      have c0 := hbw.h0
      have c1 := hbw.h1
      have c2 := hbw.h2
      have j0 : (0 : Int) ≤ (j : Int) := by omega
      by_cases hji : j < i
      case neg =>
        have HI' : Hid (∀ a b, b < a → a < i + 1 → inn G.q (l.getD a 0) ≠ inn G.q (l.getD b 0)) := hid (fun a b h1 h2 => by
          by_cases e : a = i
          · rw [e, HX.out]; exact hJ.out b (by omega)
          · exact hI.out a b h1 (by omega))
        have hge : (i : Int) ≤ (j : Int) := by omega
        clear hji
        go_wp2_with (fail)
        go_roundw
        case rel => exact ⟨i + 1, by omega, by go_num, hkw, HI'⟩
        case measure => simp [intOf]; omega
      have hjl : j < l.length := by omega
      have hjii : (j : Int) < (i : Int) := by omega
      have hjli : (j : Int) < (l.length : Int) := by omega
      obtain ⟨y, hy⟩ : ∃ y, y = l.getD j 0 := ⟨_, rfl⟩
      have hcy := (Kept.cell' hkw hbb).trans (HC.out j hjl)
      have hcx' := (Kept.cell' hkw hbb).trans hcx
      have hbb' := Kept.lt hkw hbb
      rw [← hy] at hcy
      obtain ⟨y', hy'⟩ : ∃ z, z = inn G.q y := ⟨_, rfl⟩
      have HY : Hid (inn G.q (l.getD j 0) = y') := hid (by rw [hy', hy])
      have HYO : Hid (inn (ordS P M) y = y') := hid (by rw [hy', ← ho.out.1, ← ho.out.2.1, ← t.hq])
      clear hy hy'
      by_cases hxy : x' = y'
      · subst hxy
        have HF : Hid (res = false) := hid (by
          cases hres : res with
          | false => rfl
          | true => exact absurd (HX.out.trans HY.out.symm) ((show res = true ↔ _ from HR.out).1 hres i j hji hlt))
        go_wp2_with (fail)
        have hkc := Kept.rfl' wr
        go_region_held3 (fun w' => w'.cell? ⟨w.heap.size, 0, none⟩ = some (.int .i64 P) ∧ w'.cell? ⟨w.heap.size, 1, none⟩ = some (.int .i64 M) ∧ w'.cell? ⟨w.heap.size, 2, none⟩ = some vm ∧ w'.cell? ⟨bb, off + i, none⟩ = some (.int .i64 x) ∧ w'.cell? ⟨bb, off + j, none⟩ = some (.int .i64 y)) (first | (simp [go_sem]; done) | (simp [*]; done))
          (first
            | (go_at_call 26; (with_reducible refine (rIn_any P M vm x _).mono ?_); rintro e wx ⟨rfl, kx⟩; rw [HXO.out]; have hkn := Kept.tr (b := _) (by first | exact hkc | exact hkc.tr (kept_drew _) | exact hkc.tr (kept_drewN _ _)) kx; clear hkc kx; have hkc := hkn; clear hkn; have bxx := hbw.kept hkc; have d0 := bxx.h0; have d1 := bxx.h1; have d2 := bxx.h2; have d3 := (Kept.cell' hkc hbb').trans hcx'; have d4 := (Kept.cell' hkc hbb').trans hcy)
            | (go_at_call 26; (with_reducible refine (rIn_any P M vm y _).mono ?_); rintro e wx ⟨rfl, kx⟩; rw [HYO.out]; have hkn := Kept.tr (b := _) (by first | exact hkc | exact hkc.tr (kept_drew _) | exact hkc.tr (kept_drewN _ _)) kx; clear hkc kx; have hkc := hkn; clear hkn; have bxx := hbw.kept hkc; have d0 := bxx.h0; have d1 := bxx.h1; have d2 := bxx.h2; have d3 := (Kept.cell' hkc hbb').trans hcx'; have d4 := (Kept.cell' hkc hbb').trans hcy))
        all_goals
          go_wp2_with (fail)
          go_ret
          exact ⟨ret_bool HF.out.symm, by first | exact hk0.tr (hkw.tr hkc) | exact (hk0.tr (hkw.tr hkc)).drew | exact (hk0.tr (hkw.tr hkc)).drewN _⟩
      · have txy : (x' == y') = false := by simpa using hxy
        have HJ' : Hid (∀ b, b < j + 1 → x' ≠ inn G.q (l.getD b 0)) := hid (fun b h => by
          by_cases e : b = j
          · rw [e, HY.out]; exact hxy
          · exact hJ.out b (by omega))
        clear hxy
        go_wp2_with (fail)
        have hkc := Kept.rfl' wr
        go_region_held3 (fun w' => w'.cell? ⟨w.heap.size, 0, none⟩ = some (.int .i64 P) ∧ w'.cell? ⟨w.heap.size, 1, none⟩ = some (.int .i64 M) ∧ w'.cell? ⟨w.heap.size, 2, none⟩ = some vm ∧ w'.cell? ⟨bb, off + i, none⟩ = some (.int .i64 x) ∧ w'.cell? ⟨bb, off + j, none⟩ = some (.int .i64 y)) (first | (simp [go_sem]; done) | (simp [*]; done))
          (first
            | (go_at_call 26; (with_reducible refine (rIn_any P M vm x _).mono ?_); rintro e wx ⟨rfl, kx⟩; rw [HXO.out]; have hkn := Kept.tr (b := _) (by first | exact hkc | exact hkc.tr (kept_drew _) | exact hkc.tr (kept_drewN _ _)) kx; clear hkc kx; have hkc := hkn; clear hkn; have bxx := hbw.kept hkc; have d0 := bxx.h0; have d1 := bxx.h1; have d2 := bxx.h2; have d3 := (Kept.cell' hkc hbb').trans hcx'; have d4 := (Kept.cell' hkc hbb').trans hcy)
            | (go_at_call 26; (with_reducible refine (rIn_any P M vm y _).mono ?_); rintro e wx ⟨rfl, kx⟩; rw [HYO.out]; have hkn := Kept.tr (b := _) (by first | exact hkc | exact hkc.tr (kept_drew _) | exact hkc.tr (kept_drewN _ _)) kx; clear hkc kx; have hkc := hkn; clear hkn; have bxx := hbw.kept hkc; have d0 := bxx.h0; have d1 := bxx.h1; have d2 := bxx.h2; have d3 := (Kept.cell' hkc hbb').trans hcx'; have d4 := (Kept.cell' hkc hbb').trans hcy))
        all_goals
          go_wp2_with (fail)
          go_roundw
          case rel => exact ⟨j + 1, by omega, by go_num, by first | exact hkw.tr hkc | exact (hkw.tr hkc).drew | exact (hkw.tr hkc).drewN _, HJ'⟩
          case measure => simp [intOf]; omega
end Go.Proofs.Ytmnbcnbhnclkhaa
namespace Go.Proofs.Ytmnbcnbhnclkhaa
open Go.RowKit Go.Sort Cw

/-- What errors asks of points and values. -/
def ErrP (G : GFd) (ps qs : List Int) : Prop := (∀ i, i < ps.length → inn G.q (ps.getD i 0) ≠ 0 ∧ inn G.q (qs.getD i 0) ≠ 0) ∧ ps.length = qs.length ∧ DifP G ps
theorem bif_cases (p : Prop) : ∃ r, BIf r p := by
  by_cases h : p
  · exact ⟨true, ⟨fun _ => h, fun _ => rfl⟩⟩
  · exact ⟨false, ⟨(fun e => by cases e), fun e => absurd e h⟩⟩
set_option maxRecDepth 100000 in
set_option maxHeartbeats 4000000 in
theorem rkErr_r (G : GFd) (t : Tabs G) (P M : Int) (mod : List Int) (vm : Value) (vp vq : Value) (ps qs : List Int) (res : Bool) (w : World) (ho : Hid (Of G P M mod)) (hp : Sl w vp ps) (hq : Sl w vq qs) (np : ps.length ≤ 1000) (hr : BIf res (ErrP G ps qs)) :
    Calls Try.prog 24 #[.agg #[.int .i64 P, .int .i64 M, vm], vp, vq] w fun e w' => e = .returned (.bool res) ∧ Kept w w' := by
  have hk0 := kept_alloc w (.cells #[.int .i64 P, .int .i64 M, vm] 24)
  have hbx := boxF_new w P M vm 24
  have svp := hp.kept hk0
  have svq := hq.kept hk0
  have HZ1 : (w.alloc (.cells #[.int .i64 P, .int .i64 M, vm] 24)).heap.size = w.heap.size + 1 := by simp
  have HZ1 := hid HZ1
  obtain ⟨w1, hw1⟩ : ∃ w1, w1 = w.alloc (.cells #[.int .i64 P, .int .i64 M, vm] 24) := ⟨_, rfl⟩
  rw [← hw1] at hk0 hbx HZ1 svp svq
  have HR := hid hr
  obtain ⟨a, cp, rfl, hcp, ⟨hcm, _⟩, hcell0⟩ := svp
  obtain ⟨aq, cq, rfl, hcq, ⟨hcmq, _⟩, _⟩ := id svq
  unfold maxLen at hcm hcmq
  have svp : Sl w1 (.slice a ps.length cp) ps := ⟨a, cp, rfl, hcp, ⟨by unfold maxLen; exact hcm, by assumption⟩, hcell0⟩
  clear hr hp hq
  go_enter Try.func24, Try.ntmps24
  go_wp2_with (fail)
  rw [← hw1]
  clear hw1
  go_loopw [10] (fun vi wr => ∃ i : Nat, i ≤ ps.length ∧ vi = .int .i64 i ∧ Kept w1 wr ∧ Hid (∀ k, k < i → inn G.q (ps.getD k 0) ≠ 0 ∧ inn G.q (qs.getD k 0) ≠ 0)) (fun vi _ => ps.length - (intOf vi).toNat)
  case atStart => exact ⟨0, by omega, rfl, Kept.rfl' _, hid (fun k h => by omega)⟩
  case round =>
    obtain ⟨i, hi, rfl, hkw, hI⟩ := hrel
    have hbw := hbx.kept hkw
    have c0 := hbw.h0
    have c1 := hbw.h1
    have c2 := hbw.h2
    by_cases hlt : i < ps.length
    case neg =>
      have ei : i = ps.length := by omega
      have HI : Hid (∀ k, k < ps.length → inn G.q (ps.getD k 0) ≠ 0 ∧ inn G.q (qs.getD k 0) ≠ 0) := hid (fun k hk => hI.out k (by omega))
      have hge : (ps.length : Int) ≤ (i : Int) := by omega
      have spw := svp.kept hkw
      clear hlt ei
      by_cases hl : ps.length = qs.length
      case neg =>
        have HF : Hid (res = false) := hid (by
          cases hres : res with
          | false => rfl
          | true => exact absurd ((show res = true ↔ _ from HR.out).1 hres).2.1 hl)
        have tl : ((ps.length : Int) == (qs.length : Int)) = false := by simp; omega
        clear hl
        go_wp2_with (fail)
        go_ret
        exact ⟨ret_bool HF.out.symm, hk0.tr hkw⟩
      have tl : ((ps.length : Int) == (qs.length : Int)) = true := by simp; omega
      have HDR : Hid (BIf res (DifP G ps)) := hid ⟨fun h => ((show res = true ↔ _ from HR.out).1 h).2.2, fun h => (show res = true ↔ _ from HR.out).2 ⟨HI.out, hl, h⟩⟩
      have hkc := Kept.rfl' wr
      clear hl
      go_wp2_with (go_at_call 29; (with_reducible refine (rkDif_r G t P M mod vm _ ps res _ ho (spw.kept (by first | exact hkc | exact hkc.tr (kept_drew _) | exact hkc.tr (kept_drewN _ _))) np HDR.out).mono ?_); rintro e wx ⟨rfl, kx⟩; have hkn := Kept.tr (b := _) (by first | exact hkc | exact hkc.tr (kept_drew _) | exact hkc.tr (kept_drewN _ _)) kx; clear hkc kx; have hkc := hkn; clear hkn; have bxx := hbw.kept hkc; have d0 := bxx.h0; have d1 := bxx.h1; have d2 := bxx.h2)
      go_ret
      exact ⟨rfl, hk0.tr (hkw.tr hkc)⟩
    obtain ⟨bb, off, rfl, hbb, hcell⟩ := hcell0 (by intro e; rw [e] at hlt; simp at hlt)
    have hii : (i : Int) < (ps.length : Int) := by omega
    have i0 : (0 : Int) ≤ (i : Int) := by omega
    have ii : i ≤ 1000000 := by omega
    have sqw := svq.kept hkw
    have hck := (Kept.cell' hkw hbb).trans (hcell i hlt)
    have hbb' := Kept.lt hkw hbb
    obtain ⟨x, hx⟩ : ∃ x, x = ps.getD i 0 := ⟨_, rfl⟩
    rw [← hx] at hck
    obtain ⟨x', hx'⟩ : ∃ y, y = inn G.q x := ⟨_, rfl⟩
    obtain ⟨y', hy'⟩ : ∃ y, y = inn G.q (qs.getD i 0) := ⟨_, rfl⟩
    have HX : Hid (inn G.q (ps.getD i 0) = x') := hid (by rw [hx', hx])
    have HXO : Hid (inn (ordS P M) x = x') := hid (by rw [hx', ← ho.out.1, ← ho.out.2.1, ← t.hq])
    have HY : Hid (inn G.q (qs.getD i 0) = y') := hid hy'.symm
    have q0 := cell_regrown hbw.h0
    have q1 := cell_regrown hbw.h1
    have q2 := cell_regrown hbw.h2
    have q3 := cell_regrown hck
    have cI : Hid (∀ d os, Calls Try.prog 26 #[.agg #[.int .i64 P, .int .i64 M, vm], .int .i64 x] (grow (redrawn wr d) os) fun e w'' => e = .returned (.int .i64 x') ∧ ∃ p : Regrown, w'' = grow (redrawn wr p.d) p.os) := hid (fun d os => Calls.regrown_of (by
      have h := rIn_any P M vm x (grow (redrawn wr d) os)
      rw [HXO.out] at h
      exact h))
    have cA : Hid (∀ d os, Calls Try.prog 50 #[.agg #[.int .i64 P, .int .i64 M, vm], .slice aq qs.length cq, .int .i64 i] (grow (redrawn wr d) os) fun e w'' => e = .returned (.int .i64 y') ∧ ∃ p : Regrown, w'' = grow (redrawn wr p.d) p.os) := hid (fun d os => Calls.regrown_of (by
      have h := rAt_p G t P M mod vm (.slice aq qs.length cq) qs i (grow (redrawn wr d) os) ho (sqw.kept (below_regrown wr d os)) ii
      rw [HY.out] at h
      exact h))
    clear hcell hx hx' hy' c0 c1 c2 hck
    by_cases hx0 : x' = 0
    · subst hx0
      have HF : Hid (res = false) := hid (by
        cases hres : res with
        | false => rfl
        | true => exact absurd HX.out (((show res = true ↔ _ from HR.out).1 hres).1 i hlt).1)
      go_wp2_with (fail)
      refine wp_region_quiet_below (by kernel_rfl) (by kernel_rfl) ?_
      repeat (first | go_big_quiet_step (first | exact cI.out _ _ | exact cA.out _ _) | quiet_step (first | exact cI.out _ _ | exact cA.out _ _))
      refine wpQuiet_nil ?_
      intro _ hw'
      obtain ⟨⟨dq, osq⟩, hw''⟩ := hw'
      subst hw''
      have hkc : Kept wr _ := below_regrown wr dq osq
      all_goals
        go_wp2_with (fail)
        go_ret
        exact ⟨ret_bool HF.out.symm, by first | exact hk0.tr (hkw.tr hkc) | exact (hk0.tr (hkw.tr hkc)).drew | exact (hk0.tr (hkw.tr hkc)).drewN _⟩
    have tx : (x' == 0) = false := by simpa using hx0
    by_cases hy0 : y' = 0
    · subst hy0
      have HF : Hid (res = false) := hid (by
        cases hres : res with
        | false => rfl
        | true => exact absurd HY.out (((show res = true ↔ _ from HR.out).1 hres).1 i hlt).2)
      clear hx0
      go_wp2_with (fail)
      refine wp_region_quiet_below (by kernel_rfl) (by kernel_rfl) ?_
      repeat (first | go_big_quiet_step (first | exact cI.out _ _ | exact cA.out _ _) | quiet_step (first | exact cI.out _ _ | exact cA.out _ _))
      refine wpQuiet_nil ?_
      intro _ hw'
      obtain ⟨⟨dq, osq⟩, hw''⟩ := hw'
      subst hw''
      have hkc : Kept wr _ := below_regrown wr dq osq
      all_goals
        go_wp2_with (fail)
        go_ret
        exact ⟨ret_bool HF.out.symm, by first | exact hk0.tr (hkw.tr hkc) | exact (hk0.tr (hkw.tr hkc)).drew | exact (hk0.tr (hkw.tr hkc)).drewN _⟩
    have ty : (y' == 0) = false := by simpa using hy0
    have HI' : Hid (∀ k, k < i + 1 → inn G.q (ps.getD k 0) ≠ 0 ∧ inn G.q (qs.getD k 0) ≠ 0) := hid (fun k hk => by
      by_cases e : k = i
      · rw [e, HX.out, HY.out]; exact ⟨hx0, hy0⟩
      · exact hI.out k (by omega))
    clear hx0 hy0
    go_wp2_with (fail)
    refine wp_region_quiet_below (by kernel_rfl) (by kernel_rfl) ?_
    repeat (first | go_big_quiet_step (first | exact cI.out _ _ | exact cA.out _ _) | quiet_step (first | exact cI.out _ _ | exact cA.out _ _))
    refine wpQuiet_nil ?_
    intro _ hw'
    obtain ⟨⟨dq, osq⟩, hw''⟩ := hw'
    subst hw''
    have hkc : Kept wr _ := below_regrown wr dq osq
    all_goals
      go_wp2_with (fail)
      go_roundw
      case rel => exact ⟨i + 1, by omega, by go_num, by first | exact hkw.tr hkc | exact (hkw.tr hkc).drew | exact (hkw.tr hkc).drewN _, HI'⟩
      case measure => simp [intOf]; omega
end Go.Proofs.Ytmnbcnbhnclkhaa
