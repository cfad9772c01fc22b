/- The walk of the law PolyInterpolates. No conditions. -/
import Derived.Test.YtjoednmoginhpaaNd
import Derived.Test.YtjoednmoginhpaaKm
import Derived.Test.YtjoednmoginhpaaQe
namespace Go.Proofs.Ytjoednmoginhpaa
open Go.RowKit Cw

theorem first_dup (f : Nat → Int) : ∀ n, (∀ i j, i < j → j < n → f i ≠ f j) ∨ ∃ m, m < n ∧ (∀ i j, i < j → j < m → f i ≠ f j) ∧ ∃ i, i < m ∧ f i = f m
  | 0 => .inl (fun _ _ _ h => absurd h (Nat.not_lt_zero _))
  | n + 1 => by
    rcases first_dup f n with h | ⟨m, h1, h2, h3⟩
    · by_cases hx : ∃ i, i < n ∧ f i = f n
      · exact .inr ⟨n, by omega, h, hx⟩
      · refine .inl (fun i j hij hj => ?_)
        by_cases e : j = n
        · subst e; exact fun he => hx ⟨i, hij, he⟩
        · exact h i j hij (by omega)
    · exact .inr ⟨m, by omega, h2, h3⟩

set_option maxRecDepth 100000 in
set_option maxHeartbeats 4000000 in
theorem polyInterpolates_law (P M : Int) (vm : Value) (mod : List Int) (vxs : Value) (xs : List Int) (vys : Value) (ys : List Int) (w : World) (hvm : Sl w vm mod) (hxs : Sl w vxs xs) (hys : Sl w vys ys) :
    Calls Try.prog 18 #[.agg #[.int .i64 P, .int .i64 M, vm], vxs, vys] w fun e w' => e = .returned (.bool true) ∧ Kept w w' := by
  have hkc := kept_alloc w (.cells #[.int .i64 P, .int .i64 M, vm] 24)
  have bb := boxF_new w P M vm 24
  have sm := hvm.kept hkc
  have sxs := hxs.kept hkc
  obtain ⟨axs, capxs, rfl, qxs1, ⟨qxs2, _⟩, _⟩ := hxs
  unfold maxLen at qxs2
  have sys := hys.kept hkc
  obtain ⟨ays, capys, rfl, qys1, ⟨qys2, _⟩, _⟩ := hys
  unfold maxLen at qys2
  go_enter Try.func18, Try.ntmps18
  go_wp2_with (go_at_call 20; (with_reducible refine (alive5_any _).mono ?_); rintro e w1 ⟨rfl, ka⟩; have bb := bb.kept ka; have sm := sm.kept ka; have hkc := hkc.tr ka; have sxs := sxs.kept ka; have sys := sys.kept ka; have d0 := bb.h0; have d1 := bb.h1; have d2 := bb.h2; clear ka)
  by_cases hf : FieldP P M mod
  case neg =>
    have HF := hid hf
    clear hf
    go_wp2_with (go_at_call 21; (with_reducible refine (made5_no P M vm mod _ sm HF.out).mono ?_); rintro e w2 ⟨rfl, k2⟩)
    go_ret
    exact ⟨rfl, hkc.tr k2⟩
  have HF := hid hf
  clear hf
  by_cases hs : Shrt [xs, ys]
  case neg =>
    have HS := hid hs
    clear hs
    go_wp2_with (first
      | (go_at_call 21; (with_reducible refine (made5_yes P M vm mod _ sm HF.out).mono ?_); rintro e w2 ⟨b, G, rfl, g2, t, gP, gM, gm, k2⟩; have HO : Hid (Of G P M mod) := hid ⟨gP, gM, gm⟩; clear gP gM gm; have hkc := hkc.tr k2; have ff : Fw w2 b G w.heap.size P M vm mod := ⟨g2, bb.kept k2, sm.kept k2⟩; have sxs := sxs.kept k2; have sys := sys.kept k2; have d0 := ff.b.h0; have d1 := ff.b.h1; have d2 := ff.b.h2; clear k2 g2 bb sm; have hcur := cur w2)
      | (go_at_call 22; (with_reducible refine (short_r _ [xs, ys] _ (sll_two _ _ _ _ _ _ _ _ sxs sys) false (.inr ⟨rfl, HS.out⟩)).mono ?_); rintro e w3 ⟨rfl, k3⟩; have hst := Kept.tr (kept_alloc _ _) k3; have hkc := hkc.tr hst; have ff := ff.kept hst; have sxs := sxs.kept hst; have sys := sys.kept hst; clear hst k3 hcur; have hcur := cur w3; have d0 := ff.b.h0; have d1 := ff.b.h1; have d2 := ff.b.h2))
    go_ret
    exact ⟨rfl, hkc⟩
  have HS := hid hs
  have nxs : xs.length ≤ 24 := hs _ (by simp)
  have nys : ys.length ≤ 24 := hs _ (by simp)
  clear hs
  go_wp2_with (first
    | (go_at_call 21; (with_reducible refine (made5_yes P M vm mod _ sm HF.out).mono ?_); rintro e w2 ⟨b, G, rfl, g2, t, gP, gM, gm, k2⟩; have HO : Hid (Of G P M mod) := hid ⟨gP, gM, gm⟩; clear gP gM gm; have hkc := hkc.tr k2; have ff : Fw w2 b G w.heap.size P M vm mod := ⟨g2, bb.kept k2, sm.kept k2⟩; have sxs := sxs.kept k2; have sys := sys.kept k2; have d0 := ff.b.h0; have d1 := ff.b.h1; have d2 := ff.b.h2; clear k2 g2 bb sm; have hcur := cur w2)
    | (go_at_call 22; (with_reducible refine (short_r _ [xs, ys] _ (sll_two _ _ _ _ _ _ _ _ sxs sys) true (.inl ⟨rfl, HS.out⟩)).mono ?_); rintro e w3 ⟨rfl, k3⟩; have hst := Kept.tr (kept_alloc _ _) k3; have hkc := hkc.tr hst; have ff := ff.kept hst; have sxs := sxs.kept hst; have sys := sys.kept hst; clear hst k3 hcur; have hcur := cur w3; have d0 := ff.b.h0; have d1 := ff.b.h1; have d2 := ff.b.h2))
  by_cases hl : xs.length = ys.length
  case neg =>
    have HL := hid hl
    have tl : ((xs.length : Int) != (ys.length : Int)) = true := by simp; omega
    clear hl
    go_wp2_with (first
      | (go_at_call 59; (with_reducible refine (interp_shape b _ _ xs ys _ sxs sys HL.out).mono ?_); rintro e wx ⟨rfl, kx⟩; have hst := Kept.from hcur (by first | exact Kept.rfl' _ | exact kept_alloc _ _ | exact kept_drew _ | exact kept_drewN _ _ | exact (kept_drew _).drewN _) kx; clear hcur kx; have hcur := cur wx; have hkc := hkc.tr hst; have ff := ff.kept hst; have sxs := sxs.kept hst; have sys := sys.kept hst; (first | (have s3 := s3.kept hst) | skip); (first | (have s4 := s4.kept hst) | skip); clear hst; have d0 := ff.b.h0; have d1 := ff.b.h1; have d2 := ff.b.h2))
    go_ret
    exact ⟨ret_bool (by simp), hkc⟩
  have HQ : Hid (ordS P M = G.q) := hid (by rw [← HO.out.1, ← HO.out.2.1, ← t.hq])
  have tl : ((xs.length : Int) != (ys.length : Int)) = false := by simp; omega
  have HL : Hid (ys.length = xs.length) := hid hl.symm
  clear hl
  rcases first_dup (fun i => inn G.q (xs.getD i 0)) xs.length with hall | ⟨m, hm, hd, i0, hi0, he0⟩
  case inr =>
    have HD := hid hd
    have HX : Hid (m < xs.length → ∃ i, i < m ∧ inn G.q (xs.getD i 0) = inn G.q (xs.getD m 0)) := hid (fun _ => ⟨i0, hi0, he0⟩)
    have HE0 := hid he0
    have HM := hid hm
    clear hd he0
    go_wp2_with (first
      | (go_at_call 59; (with_reducible refine (((interp_any b G t _ _ xs ys m _ ff.g sxs sys HL.out (by omega) (by omega) HD HX).mono (fun _ _ h => h.1 HM.out))).mono ?_); rintro e wx ⟨rfl, kx⟩; have hst := Kept.from hcur (by first | exact Kept.rfl' _ | exact kept_alloc _ _ | exact kept_drew _ | exact kept_drewN _ _ | exact (kept_drew _).drewN _) kx; clear hcur kx; have hcur := cur wx; have hkc := hkc.tr hst; have ff := ff.kept hst; have sxs := sxs.kept hst; have sys := sys.kept hst; (first | (have s3 := s3.kept hst) | skip); (first | (have s4 := s4.kept hst) | skip); clear hst; have d0 := ff.b.h0; have d1 := ff.b.h1; have d2 := ff.b.h2))
    obtain ⟨wL, hwL⟩ : ∃ x, x = wx := ⟨_, rfl⟩
    subst hwL
    have hkL := hkc
    go_loopw [47] (fun vi wr => ∃ k : Nat, k ≤ m ∧ vi = .int .i64 k ∧ Kept wL wr) (fun vi _ => xs.length - (intOf vi).toNat)
    case atStart => exact ⟨0, by omega, rfl, Kept.rfl' _⟩
    case round =>
      obtain ⟨k, hk, rfl, hkw⟩ := hrel
      have hxc := sxs.kept hkw
      by_cases hlt : k < xs.length
      case pos =>
        obtain ⟨_, _, e1, _, _, hc⟩ := hxc
        cases e1
        obtain ⟨bp, off, e2, hbp, hcell⟩ := hc (by intro e; rw [e] at hlt; simp at hlt)
        cases e2
        have hki : (k : Int) < (xs.length : Int) := by omega
        have k0 : (0 : Int) ≤ (k : Int) := by omega
        obtain ⟨wM, hwM⟩ : ∃ x, x = wr := ⟨_, rfl⟩
        subst hwM
        go_wp2_with (fail)
        go_loopw [51] (fun vj wr => ∃ j : Nat, j ≤ k ∧ vj = .int .i64 j ∧ Hid (∀ i, i < j → inn G.q (xs.getD i 0) ≠ inn G.q (xs.getD k 0)) ∧ Kept wM wr) (fun vj _ => k - (intOf vj).toNat)
        case atStart => exact ⟨0, by omega, rfl, hid (fun i hi => by omega), Kept.rfl' _⟩
        case round =>
          obtain ⟨j, hj, rfl, hjn, hkj⟩ := hrel
          have hkt := hkw.tr hkj
          have ff := ff.kept hkt
          have sxs := sxs.kept hkt
          have sys := sys.kept hkt
          have hkc := hkL.tr hkt
          have hkw' := hkj
          have d0 := ff.b.h0
          have d1 := ff.b.h1
          have d2 := ff.b.h2
          have hcur := cur wr
          by_cases hjl : j < k
          case pos =>
            have r1 := (Kept.cell' hkj hbp).trans (hcell k hlt)
            have r2 := (Kept.cell' hkj hbp).trans (hcell j (by omega))
            have hbp' := Kept.lt hkj hbp
            obtain ⟨z1, hz1⟩ : ∃ z, z = xs.getD k 0 := ⟨_, rfl⟩
            obtain ⟨z2, hz2⟩ : ∃ z, z = xs.getD j 0 := ⟨_, rfl⟩
            obtain ⟨y1, hy1⟩ : ∃ y, y = inn G.q z1 := ⟨_, rfl⟩
            obtain ⟨y2, hy2⟩ : ∃ y, y = inn G.q z2 := ⟨_, rfl⟩
            rw [← hz1] at r1
            rw [← hz2] at r2
            have HY1 : Hid (inn (ordS P M) z1 = y1) := hid (by rw [HQ.out, hy1])
            have HY2 : Hid (inn (ordS P M) z2 = y2) := hid (by rw [HQ.out, hy2])
            have hjk : (j : Int) < (k : Int) := by omega
            have hjx : (j : Int) < (xs.length : Int) := by omega
            have j0 : (0 : Int) ≤ (j : Int) := by omega
            have hreg := Kept.rfl' wr
            by_cases hyy : y1 = y2
            case pos =>
              have HE : Hid (inn G.q (xs.getD j 0) = inn G.q (xs.getD k 0)) := hid (by rw [← hz1, ← hz2, ← hy1, ← hy2, hyy])
              subst hyy
              clear hz1 hz2 hy1 hy2 hcell hc
              go_wp2_with (fail)
              go_region_held3 (fun w' => w'.cell? ⟨w.heap.size, 0, none⟩ = some (.int .i64 P) ∧ w'.cell? ⟨w.heap.size, 1, none⟩ = some (.int .i64 M) ∧ w'.cell? ⟨w.heap.size, 2, none⟩ = some vm ∧ w'.cell? ⟨bp, off + k, none⟩ = some (.int .i64 z1) ∧ w'.cell? ⟨bp, off + j, none⟩ = some (.int .i64 z2)) (first | (simp [go_sem]; done) | (simp [*]; done))
                (first
                  | (go_at_call 43; (with_reducible refine (rIn_any P M vm z1 _).mono ?_); rintro e wx ⟨rfl, kx⟩; have hst := Kept.from hcur (by first | exact Kept.rfl' _ | exact kept_alloc _ _ | exact kept_drew _ | exact kept_drewN _ _ | exact (kept_drew _).drewN _) kx; clear hcur kx; have hcur := cur wx; have hkc := hkc.tr hst; have ff := ff.kept hst; have sxs := sxs.kept hst; have sys := sys.kept hst; (first | (have s3 := s3.kept hst) | skip); (first | (have s4 := s4.kept hst) | skip); (first | (have hkw' := hkw'.tr hst) | skip); (first | (have hreg := hreg.tr hst) | skip); clear hst; have d0 := ff.b.h0; have d1 := ff.b.h1; have d2 := ff.b.h2; rw [HY1.out]; have y1' := (Kept.cell' hreg hbp').trans r1; have y2' := (Kept.cell' hreg hbp').trans r2)
                  | (go_at_call 43; (with_reducible refine (rIn_any P M vm z2 _).mono ?_); rintro e wx ⟨rfl, kx⟩; have hst := Kept.from hcur (by first | exact Kept.rfl' _ | exact kept_alloc _ _ | exact kept_drew _ | exact kept_drewN _ _ | exact (kept_drew _).drewN _) kx; clear hcur kx; have hcur := cur wx; have hkc := hkc.tr hst; have ff := ff.kept hst; have sxs := sxs.kept hst; have sys := sys.kept hst; (first | (have s3 := s3.kept hst) | skip); (first | (have s4 := s4.kept hst) | skip); (first | (have hkw' := hkw'.tr hst) | skip); (first | (have hreg := hreg.tr hst) | skip); clear hst; have d0 := ff.b.h0; have d1 := ff.b.h1; have d2 := ff.b.h2; rw [HY2.out]; have y1' := (Kept.cell' hreg hbp').trans r1; have y2' := (Kept.cell' hreg hbp').trans r2))
              all_goals
                go_wp2_with (fail)
                go_ret
                exact ⟨ret_bool (by simp), hkc⟩
            case neg =>
              have ty : (y1 == y2) = false := by simpa using hyy
              have ty2 : decide (y1 = y2) = false := by simpa using hyy
              have hjn' : Hid (∀ i, i < j + 1 → inn G.q (xs.getD i 0) ≠ inn G.q (xs.getD k 0)) := hid (fun i hi => by
                by_cases e : i = j
                · subst e; rw [← hz1, ← hz2, ← hy1, ← hy2]; exact fun h => hyy h.symm
                · exact hjn.out i (by omega))
              clear hz1 hz2 hy1 hy2 hcell hc hyy
              go_wp2_with (fail)
              go_region_held3 (fun w' => w'.cell? ⟨w.heap.size, 0, none⟩ = some (.int .i64 P) ∧ w'.cell? ⟨w.heap.size, 1, none⟩ = some (.int .i64 M) ∧ w'.cell? ⟨w.heap.size, 2, none⟩ = some vm ∧ w'.cell? ⟨bp, off + k, none⟩ = some (.int .i64 z1) ∧ w'.cell? ⟨bp, off + j, none⟩ = some (.int .i64 z2)) (first | (simp [go_sem]; done) | (simp [*]; done))
                (first
                  | (go_at_call 43; (with_reducible refine (rIn_any P M vm z1 _).mono ?_); rintro e wx ⟨rfl, kx⟩; have hst := Kept.from hcur (by first | exact Kept.rfl' _ | exact kept_alloc _ _ | exact kept_drew _ | exact kept_drewN _ _ | exact (kept_drew _).drewN _) kx; clear hcur kx; have hcur := cur wx; have hkc := hkc.tr hst; have ff := ff.kept hst; have sxs := sxs.kept hst; have sys := sys.kept hst; (first | (have s3 := s3.kept hst) | skip); (first | (have s4 := s4.kept hst) | skip); (first | (have hkw' := hkw'.tr hst) | skip); (first | (have hreg := hreg.tr hst) | skip); clear hst; have d0 := ff.b.h0; have d1 := ff.b.h1; have d2 := ff.b.h2; rw [HY1.out]; have y1' := (Kept.cell' hreg hbp').trans r1; have y2' := (Kept.cell' hreg hbp').trans r2)
                  | (go_at_call 43; (with_reducible refine (rIn_any P M vm z2 _).mono ?_); rintro e wx ⟨rfl, kx⟩; have hst := Kept.from hcur (by first | exact Kept.rfl' _ | exact kept_alloc _ _ | exact kept_drew _ | exact kept_drewN _ _ | exact (kept_drew _).drewN _) kx; clear hcur kx; have hcur := cur wx; have hkc := hkc.tr hst; have ff := ff.kept hst; have sxs := sxs.kept hst; have sys := sys.kept hst; (first | (have s3 := s3.kept hst) | skip); (first | (have s4 := s4.kept hst) | skip); (first | (have hkw' := hkw'.tr hst) | skip); (first | (have hreg := hreg.tr hst) | skip); clear hst; have d0 := ff.b.h0; have d1 := ff.b.h1; have d2 := ff.b.h2; rw [HY2.out]; have y1' := (Kept.cell' hreg hbp').trans r1; have y2' := (Kept.cell' hreg hbp').trans r2))
              all_goals
                go_wp2_with (fail)
                go_roundw
                case rel => exact ⟨j + 1, by omega, by go_num, hjn', hkw'⟩
                case measure => simp [intOf]; omega
          case neg =>
            have ek : j = k := by omega
            subst ek
            have hge : (j : Int) ≤ (j : Int) := Int.le_refl _
            have hkm : j < m := by
              rcases Nat.lt_or_ge j m with g | g
              · exact g
              · exact absurd (by rw [show j = m by omega]; exact HE0.out) (hjn.out i0 (by omega))
            clear hjl
            go_wp2_with (fail)
            go_roundw
            case rel => exact ⟨j + 1, by omega, by go_num, hkt⟩
            case measure => simp [intOf]; omega
      case neg =>
        have hge : (xs.length : Int) ≤ (k : Int) := by omega
        exact absurd hm (by omega)
  have HD : Hid (∀ i j, i < j → j < xs.length → inn G.q (xs.getD i 0) ≠ inn G.q (xs.getD j 0)) := hid hall
  have HX : Hid (xs.length < xs.length → ∃ i, i < xs.length ∧ inn G.q (xs.getD i 0) = inn G.q (xs.getD xs.length 0)) := hid (fun h => absurd h (by omega))
  clear hall
  go_wp2_with (first
    | (go_at_call 59; (with_reducible refine (((interp_any b G t _ _ xs ys xs.length _ ff.g sxs sys HL.out (by omega) (Nat.le_refl _) HD HX).mono (fun _ _ h => h.2 rfl))).mono ?_); rintro e wx ⟨v3, l3, rfl, o3, kx, c3, p3⟩; have hst := Kept.from hcur (by first | exact Kept.rfl' _ | exact kept_alloc _ _ | exact kept_drew _ | exact kept_drewN _ _ | exact (kept_drew _).drewN _) kx; clear hcur kx; have hcur := cur wx; have hkc := hkc.tr hst; have ff := ff.kept hst; have sxs := sxs.kept hst; have sys := sys.kept hst; (first | (have s3 := s3.kept hst) | skip); (first | (have s4 := s4.kept hst) | skip); clear hst; have d0 := ff.b.h0; have d1 := ff.b.h1; have d2 := ff.b.h2; have s3 := o3.sl; have P3 := hid p3; clear p3 o3; have N3 : Hid (l3.length ≤ xs.length) := hid (by have h1 := t.can_ln' c3 P3.out; have h2 := Pl.nwt_ln (fun i => t.e (xs.getD i 0)) (fun i => t.e (ys.getD i 0)) xs.length; omega); have n3 : l3.length ≤ 24 := (by have := N3.out; omega); have z3 := s3; obtain ⟨a3, cp3, rfl, ta3, ⟨tb3, _⟩, _⟩ := z3; unfold maxLen at tb3))
  obtain ⟨wL, hwL⟩ : ∃ x, x = wx := ⟨_, rfl⟩
  subst hwL
  have hkL := hkc
  go_loopw [47] (fun vi wr => ∃ k : Nat, k ≤ xs.length ∧ vi = .int .i64 k ∧ Kept wL wr) (fun vi _ => xs.length - (intOf vi).toNat)
  case atStart => exact ⟨0, by omega, rfl, Kept.rfl' _⟩
  case round =>
    obtain ⟨k, hk, rfl, hkw⟩ := hrel
    have hxc := sxs.kept hkw
    by_cases hlt : k < xs.length
    case pos =>
      obtain ⟨_, _, e1, _, _, hc⟩ := hxc
      cases e1
      obtain ⟨bp, off, e2, hbp, hcell⟩ := hc (by intro e; rw [e] at hlt; simp at hlt)
      cases e2
      have hki : (k : Int) < (xs.length : Int) := by omega
      have k0 : (0 : Int) ≤ (k : Int) := by omega
      obtain ⟨wM, hwM⟩ : ∃ x, x = wr := ⟨_, rfl⟩
      subst hwM
      go_wp2_with (fail)
      go_loopw [51] (fun vj wr => ∃ j : Nat, j ≤ k ∧ vj = .int .i64 j ∧ Hid (∀ i, i < j → inn G.q (xs.getD i 0) ≠ inn G.q (xs.getD k 0)) ∧ Kept wM wr) (fun vj _ => k - (intOf vj).toNat)
      case atStart => exact ⟨0, by omega, rfl, hid (fun i hi => by omega), Kept.rfl' _⟩
      case round =>
        obtain ⟨j, hj, rfl, hjn, hkj⟩ := hrel
        have hkt := hkw.tr hkj
        have ff := ff.kept hkt
        have sxs := sxs.kept hkt
        have sys := sys.kept hkt
        have s3 := s3.kept hkt
        have hkc := hkL.tr hkt
        have hkw' := hkj
        have d0 := ff.b.h0
        have d1 := ff.b.h1
        have d2 := ff.b.h2
        have hcur := cur wr
        by_cases hjl : j < k
        case pos =>
          have r1 := (Kept.cell' hkj hbp).trans (hcell k hlt)
          have r2 := (Kept.cell' hkj hbp).trans (hcell j (by omega))
          have hbp' := Kept.lt hkj hbp
          obtain ⟨z1, hz1⟩ : ∃ z, z = xs.getD k 0 := ⟨_, rfl⟩
          obtain ⟨z2, hz2⟩ : ∃ z, z = xs.getD j 0 := ⟨_, rfl⟩
          obtain ⟨y1, hy1⟩ : ∃ y, y = inn G.q z1 := ⟨_, rfl⟩
          obtain ⟨y2, hy2⟩ : ∃ y, y = inn G.q z2 := ⟨_, rfl⟩
          rw [← hz1] at r1
          rw [← hz2] at r2
          have HY1 : Hid (inn (ordS P M) z1 = y1) := hid (by rw [HQ.out, hy1])
          have HY2 : Hid (inn (ordS P M) z2 = y2) := hid (by rw [HQ.out, hy2])
          have hjk : (j : Int) < (k : Int) := by omega
          have hjx : (j : Int) < (xs.length : Int) := by omega
          have j0 : (0 : Int) ≤ (j : Int) := by omega
          have hreg := Kept.rfl' wr
          by_cases hyy : y1 = y2
          case pos =>
            have HE : Hid (inn G.q (xs.getD j 0) = inn G.q (xs.getD k 0)) := hid (by rw [← hz1, ← hz2, ← hy1, ← hy2, hyy])
            subst hyy
            clear hz1 hz2 hy1 hy2 hcell hc
            exact absurd HE.out (HD.out j k (by omega) (by omega))
          case neg =>
            have ty : (y1 == y2) = false := by simpa using hyy
            have ty2 : decide (y1 = y2) = false := by simpa using hyy
            have hjn' : Hid (∀ i, i < j + 1 → inn G.q (xs.getD i 0) ≠ inn G.q (xs.getD k 0)) := hid (fun i hi => by
              by_cases e : i = j
              · subst e; rw [← hz1, ← hz2, ← hy1, ← hy2]; exact fun h => hyy h.symm
              · exact hjn.out i (by omega))
            clear hz1 hz2 hy1 hy2 hcell hc hyy
            go_wp2_with (fail)
            go_region_held3 (fun w' => w'.cell? ⟨w.heap.size, 0, none⟩ = some (.int .i64 P) ∧ w'.cell? ⟨w.heap.size, 1, none⟩ = some (.int .i64 M) ∧ w'.cell? ⟨w.heap.size, 2, none⟩ = some vm ∧ w'.cell? ⟨bp, off + k, none⟩ = some (.int .i64 z1) ∧ w'.cell? ⟨bp, off + j, none⟩ = some (.int .i64 z2)) (first | (simp [go_sem]; done) | (simp [*]; done))
              (first
                | (go_at_call 43; (with_reducible refine (rIn_any P M vm z1 _).mono ?_); rintro e wx ⟨rfl, kx⟩; have hst := Kept.from hcur (by first | exact Kept.rfl' _ | exact kept_alloc _ _ | exact kept_drew _ | exact kept_drewN _ _ | exact (kept_drew _).drewN _) kx; clear hcur kx; have hcur := cur wx; have hkc := hkc.tr hst; have ff := ff.kept hst; have sxs := sxs.kept hst; have sys := sys.kept hst; (first | (have s3 := s3.kept hst) | skip); (first | (have s4 := s4.kept hst) | skip); (first | (have hkw' := hkw'.tr hst) | skip); (first | (have hreg := hreg.tr hst) | skip); clear hst; have d0 := ff.b.h0; have d1 := ff.b.h1; have d2 := ff.b.h2; rw [HY1.out]; have y1' := (Kept.cell' hreg hbp').trans r1; have y2' := (Kept.cell' hreg hbp').trans r2)
                | (go_at_call 43; (with_reducible refine (rIn_any P M vm z2 _).mono ?_); rintro e wx ⟨rfl, kx⟩; have hst := Kept.from hcur (by first | exact Kept.rfl' _ | exact kept_alloc _ _ | exact kept_drew _ | exact kept_drewN _ _ | exact (kept_drew _).drewN _) kx; clear hcur kx; have hcur := cur wx; have hkc := hkc.tr hst; have ff := ff.kept hst; have sxs := sxs.kept hst; have sys := sys.kept hst; (first | (have s3 := s3.kept hst) | skip); (first | (have s4 := s4.kept hst) | skip); (first | (have hkw' := hkw'.tr hst) | skip); (first | (have hreg := hreg.tr hst) | skip); clear hst; have d0 := ff.b.h0; have d1 := ff.b.h1; have d2 := ff.b.h2; rw [HY2.out]; have y1' := (Kept.cell' hreg hbp').trans r1; have y2' := (Kept.cell' hreg hbp').trans r2))
            all_goals
              go_wp2_with (fail)
              go_roundw
              case rel => exact ⟨j + 1, by omega, by go_num, hjn', hkw'⟩
              case measure => simp [intOf]; omega
        case neg =>
          have ek : j = k := by omega
          subst ek
          have hge : (j : Int) ≤ (j : Int) := Int.le_refl _
          clear hjl
          go_wp2_with (fail)
          go_roundw
          case rel => exact ⟨j + 1, by omega, by go_num, hkt⟩
          case measure => simp [intOf]; omega
    case neg =>
      have hge : (xs.length : Int) ≤ (k : Int) := by omega
      have ff := ff.kept hkw
      have sxs := sxs.kept hkw
      have sys := sys.kept hkw
      have s3 := s3.kept hkw
      have hkc := hkL.tr hkw
      have d0 := ff.b.h0
      have d1 := ff.b.h1
      have d2 := ff.b.h2
      have hcur := cur wr
      have n3' : (l3.length : Int) ≤ (xs.length : Int) := by have := N3.out; omega
      have hev : Hid (∀ i, i < xs.length → evL G l3 (xs.getD i 0) = inn G.q (ys.getD i 0)) := hid (fun i hi => by
        refine t.e_eq (t.evL_bd _ _) (inn_bd (by have := t.qb; omega) _) ?_
        rw [t.e_evL, P3.out, t.e_inn]
        exact Pl.nwt_ev _ _ _ (fun a c h1 h2 e => HD.out a c h1 h2 (t.e_inn_eq.2 e)) i hi)
      clear hlt
      go_wp2_with (first
        | (go_at_call 28; (with_reducible refine (rCanon_p G t P M mod vm _ l3 _ HO (s3.kept (by first | exact Kept.rfl' _ | exact kept_alloc _ _ | exact kept_drew _ | exact kept_drewN _ _ | exact (kept_drew _).drewN _)) (by omega)).mono ?_); rintro e wx ⟨v4, l4, rfl, o4, kx, c4, p4⟩; have hst := Kept.from hcur (by first | exact Kept.rfl' _ | exact kept_alloc _ _ | exact kept_drew _ | exact kept_drewN _ _ | exact (kept_drew _).drewN _) kx; clear hcur kx; have hcur := cur wx; have hkc := hkc.tr hst; have ff := ff.kept hst; have sxs := sxs.kept hst; have sys := sys.kept hst; (first | (have s3 := s3.kept hst) | skip); (first | (have s4 := s4.kept hst) | skip); clear hst; have d0 := ff.b.h0; have d1 := ff.b.h1; have d2 := ff.b.h2; have s4 := o4.sl; have P4 := hid p4; clear p4 o4)
        | (go_at_call 27; (with_reducible refine (same_eq _ _ l3 l4 _ (s3.kept (by first | exact Kept.rfl' _ | exact kept_alloc _ _ | exact kept_drew _ | exact kept_drewN _ _ | exact (kept_drew _).drewN _)) (s4.kept (by first | exact Kept.rfl' _ | exact kept_alloc _ _ | exact kept_drew _ | exact kept_drewN _ _ | exact (kept_drew _).drewN _)) (t.pl_inj c3 c4 P4.out.symm)).mono ?_); rintro e wx ⟨rfl, kx⟩; have hst := Kept.from hcur (by first | exact Kept.rfl' _ | exact kept_alloc _ _ | exact kept_drew _ | exact kept_drewN _ _ | exact (kept_drew _).drewN _) kx; clear hcur kx; have hcur := cur wx; have hkc := hkc.tr hst; have ff := ff.kept hst; have sxs := sxs.kept hst; have sys := sys.kept hst; (first | (have s3 := s3.kept hst) | skip); (first | (have s4 := s4.kept hst) | skip); clear hst; have d0 := ff.b.h0; have d1 := ff.b.h1; have d2 := ff.b.h2))
      clear n3'
      have hdec : decide (xs.length < l3.length) = false := decide_eq_false (by have := N3.out; omega)
      simp only [hdec]
      clear hdec
      obtain ⟨wN, hwN⟩ : ∃ x, x = wx := ⟨_, rfl⟩
      subst hwN
      have hkL := hkc
      go_loopw [95] (fun vi wr => ∃ k : Nat, k ≤ xs.length ∧ vi = .int .i64 k ∧ Kept wN wr) (fun vi _ => xs.length - (intOf vi).toNat)
      case atStart => exact ⟨0, by omega, rfl, Kept.rfl' _⟩
      case round =>
        obtain ⟨k, hk, rfl, hkw⟩ := hrel
        have hxc := sxs.kept hkw
        have hyc := sys.kept hkw
        have sxs := hxc
        have sys := hyc
        have ff := ff.kept hkw
        have s3 := s3.kept hkw
        have hkc := hkL.tr hkw
        have d0 := ff.b.h0
        have d1 := ff.b.h1
        have d2 := ff.b.h2
        have hcur := cur wr
        by_cases hlt : k < xs.length
        case pos =>
          obtain ⟨_, _, e1, _, _, hc⟩ := hxc
          cases e1
          obtain ⟨bp, off, e2, hbp, hcell⟩ := hc (by intro e; rw [e] at hlt; simp at hlt)
          cases e2
          obtain ⟨_, _, e1, _, _, hc'⟩ := hyc
          cases e1
          obtain ⟨bq, offq, e2, hbq, hcellq⟩ := hc' (by intro e; have := HL.out; rw [e] at this; simp at this; omega)
          cases e2
          have r1 := hcell k hlt
          have r2 := hcellq k (by rw [HL.out]; exact hlt)
          have hv := hev.out k hlt
          obtain ⟨z1, hz1⟩ : ∃ z, z = xs.getD k 0 := ⟨_, rfl⟩
          obtain ⟨z2, hz2⟩ : ∃ z, z = ys.getD k 0 := ⟨_, rfl⟩
          obtain ⟨y1, hy1⟩ : ∃ y, y = inn G.q z2 := ⟨_, rfl⟩
          rw [← hz1] at r1 hv
          rw [← hz2, ← hy1] at hv
          rw [← hz2] at r2
          have HY1 : Hid (evL G l3 z1 = y1) := hid hv
          have HY2 : Hid (inn (ordS P M) z2 = y1) := hid (by rw [HQ.out, hy1])
          have hki : (k : Int) < (xs.length : Int) := by omega
          have hkiy : (k : Int) < (ys.length : Int) := by have := HL.out; omega
          have k0 : (0 : Int) ≤ (k : Int) := by omega
          have hreg := Kept.rfl' wr
          have hkw' := hkw
          clear hz1 hz2 hy1 hcell hcellq hc hc' hv
          go_wp2_with (fail)
          go_region_held3 (fun w' => w'.cell? ⟨w.heap.size, 0, none⟩ = some (.int .i64 P) ∧ w'.cell? ⟨w.heap.size, 1, none⟩ = some (.int .i64 M) ∧ w'.cell? ⟨w.heap.size, 2, none⟩ = some vm ∧ w'.cell? ⟨bp, off + k, none⟩ = some (.int .i64 z1) ∧ w'.cell? ⟨bq, offq + k, none⟩ = some (.int .i64 z2)) (first | (simp [go_sem]; done) | (simp [*]; done))
            (first
              | (go_at_call 45; (with_reducible refine (rEval_p G t P M mod vm _ l3 z1 _ HO (ff.m.kept (by first | exact Kept.rfl' _ | exact kept_alloc _ _ | exact kept_drew _ | exact kept_drewN _ _ | exact (kept_drew _).drewN _)) (s3.kept (by first | exact Kept.rfl' _ | exact kept_alloc _ _ | exact kept_drew _ | exact kept_drewN _ _ | exact (kept_drew _).drewN _)) (by omega)).mono ?_); rintro e wx ⟨rfl, kx⟩; have hst := Kept.from hcur (by first | exact Kept.rfl' _ | exact kept_alloc _ _ | exact kept_drew _ | exact kept_drewN _ _ | exact (kept_drew _).drewN _) kx; clear hcur kx; have hcur := cur wx; have hkc := hkc.tr hst; have ff := ff.kept hst; have sxs := sxs.kept hst; have sys := sys.kept hst; (first | (have s3 := s3.kept hst) | skip); (first | (have s4 := s4.kept hst) | skip); (first | (have hkw' := hkw'.tr hst) | skip); (first | (have hreg := hreg.tr hst) | skip); clear hst; have d0 := ff.b.h0; have d1 := ff.b.h1; have d2 := ff.b.h2; rw [HY1.out]; have y1' := (Kept.cell' hreg hbp).trans r1; have y2' := (Kept.cell' hreg hbq).trans r2)
              | (go_at_call 43; (with_reducible refine (rIn_any P M vm z2 _).mono ?_); rintro e wx ⟨rfl, kx⟩; have hst := Kept.from hcur (by first | exact Kept.rfl' _ | exact kept_alloc _ _ | exact kept_drew _ | exact kept_drewN _ _ | exact (kept_drew _).drewN _) kx; clear hcur kx; have hcur := cur wx; have hkc := hkc.tr hst; have ff := ff.kept hst; have sxs := sxs.kept hst; have sys := sys.kept hst; (first | (have s3 := s3.kept hst) | skip); (first | (have s4 := s4.kept hst) | skip); (first | (have hkw' := hkw'.tr hst) | skip); (first | (have hreg := hreg.tr hst) | skip); clear hst; have d0 := ff.b.h0; have d1 := ff.b.h1; have d2 := ff.b.h2; rw [HY2.out]; have y1' := (Kept.cell' hreg hbp).trans r1; have y2' := (Kept.cell' hreg hbq).trans r2))
          all_goals
            go_wp2_with (fail)
            go_roundw
            case rel => exact ⟨k + 1, by omega, by go_num, hkw'⟩
            case measure => simp [intOf]; omega
        case neg =>
          have hge : (xs.length : Int) ≤ (k : Int) := by omega
          clear hlt
          go_wp2_with (fail)
          go_ret
          exact ⟨ret_bool (by simp), hkc⟩
end Go.Proofs.Ytjoednmoginhpaa
