/- The walks of run and Shortest of registers. Conditions: the field lies in memory with its tables; lengths are bounded. -/
import Derived.Test.YtmakdclgpeochaaHa
import Derived.Deep.RegionHeld3
namespace Go.Proofs.Ytmakdclgpeochaa
open Go.RowKit Cw

/-- A shortest register that generates s. -/
def OutR {G : GFd} (t : Tabs G) (s : List Int) (w : World) (e : Ending) (w' : World) : Prop :=
  ∃ (v : Value) (lc : List Int) (l : Nat), e = .returned (.tuple #[v, .int .i64 l]) ∧ Own w' w.heap.size v lc ∧ Kept w w' ∧ Cano G lc ∧ ∃ old bb since, Pl.BM (t.po s) (t.pl lc) old bb l since s.length
theorem shortest1_any (l : Int) (w : World) : Calls Try.prog 35 #[.int .i64 l] w fun e w' => e = .returned (.tuple #[]) ∧ w' = w := by
  go_enter Try.func35, Try.ntmps35
  go_wp2
  go_end0
  exact ⟨rfl, rfl⟩
set_option maxRecDepth 100000 in
set_option maxHeartbeats 4000000 in
theorem run_s (b : Nat) (G : GFd) (t : Tabs G) (vs : Value) (s : List Int) (w : World) (hg : IsGF w b G) (hs : Sl w vs s) (hl : s.length ≤ 300) :
    Calls Try.prog 34 #[.pointer (some ⟨b, 0, none⟩), vs, .func (.func 35) #[] #[]] w (OutR t s w) := by
  have HS := hs
  obtain ⟨av, capv, rfl, hcv, ⟨hcm, _⟩, hcs⟩ := hs
  have ss0 := HS
  unfold maxLen at hcm
  have kA := kept_alloc w (.cells #[.int .i64 1] 3)
  have oA := own_one (w := w) (B := w.heap.size) (x := 1) (Nat.le_refl _)
  have kB := kA.tr (kept_alloc (w.alloc (.cells #[.int .i64 1] 3)) (.cells #[.int .i64 1] 3))
  have oA' := oA.kept (kept_alloc (w.alloc (.cells #[.int .i64 1] 3)) (.cells #[.int .i64 1] 3))
  have sB := (own_one (w := w.alloc (.cells #[.int .i64 1] 3)) (B := 0) (x := 1) (Nat.zero_le _)).sl
  rw [World.size_alloc] at sB
  have hB0 : Hid (Pl.BM (t.po s) (t.pl [1]) (t.pl [1]) (t.e 1) 0 1 0) := hid (by rw [t.pl_one, t.e_one]; exact Pl.bm_start _)
  obtain ⟨q1, q2, -⟩ := t.qb
  go_enter Try.func34, Try.ntmps34
  go_wp2_with (fail)
  go_loopw [6, 7, 8, 9, 10, 21] (fun vc vl vo vg vn vi wr => ∃ (j l since : Nat) (og : Int) (lc lo : List Int), j ≤ s.length ∧ vi = .int .i64 j ∧ vl = .int .i64 l ∧ vg = .int .i64 og ∧ vn = .int .i64 since ∧ Own wr w.heap.size vc lc ∧ Sl wr vo lo ∧ Kept w wr ∧ Cano G lc ∧ lo.length ≤ 1000 ∧ Hid (Pl.BM (t.po s) (t.pl lc) (t.pl lo) (t.e og) l since j) ∧ l ≤ j ∧ since ≤ j + 1) (fun _ _ _ _ _ vi _ => s.length - (intOf vi).toNat)
  case atStart => exact ⟨0, 0, 1, 1, [1], [1], by omega, rfl, rfl, rfl, rfl, oA', sB, kB, cano_one t, by simp, hB0, by omega, by omega⟩
  case round =>
    obtain ⟨j, l, since, og, lc, lo, hj, rfl, rfl, rfl, rfl, oc, so, hkw, cc, hlo, hB, hlj, hsj⟩ := hrel
    clear oA oA' sB kB kA hB0
    have hgw := hg.kept hkw
    have ssw := ss0.kept hkw
    have hlc : lc.length ≤ 301 := by have h1 := hB.out.reg.len; rw [t.can_ln cc] at h1; omega
    by_cases hlt : j < s.length
    case neg =>
      obtain rfl : j = s.length := by omega
      have hge : (s.length : Int) ≤ (s.length : Int) := Int.le_refl _
      clear hlt
      go_wp2_with (fail)
      go_ret2
      exact ⟨_, lc, l, rfl, oc, hkw, cc, _, _, _, hB.out⟩
    have scw := oc.sl
    have hji : (j : Int) < (s.length : Int) := by omega
    obtain ⟨y, hy⟩ : ∃ y, y = gpS G lc s j lc.length := ⟨_, rfl⟩
    have HY : Hid (gpS G lc s j lc.length = y) := hid hy.symm
    have hey : t.e y = ((t.pl lc).a * t.po s) j := by rw [hy]; exact e_gap t lc s j
    have GAP := hid hlt
    by_cases h0 : y = 0
    case pos =>
      subst h0
      have hB' : Hid (Pl.BM (t.po s) (t.pl lc) (t.pl lo) (t.e og) l (since + 1) (j + 1)) := hid (Pl.bm_zero hB.out (by rw [← hey, t.e_zero]))
      clear hy hey hlt
      go_wp2_with (first
        | (go_at_call 44; (with_reducible refine (gap_any b G t _ _ lc s j _ hgw scw ssw GAP.out).mono ?_); rintro e w3 ⟨rfl, n3, rfl⟩; rw [HY.out])
        | (go_at_call 35; (with_reducible refine (shortest1_any _ _).mono ?_); rintro e w4 ⟨rfl, rfl⟩))
      go_roundw
      case rel => exact ⟨j + 1, l, since + 1, og, lc, lo, by omega, by go_num, rfl, rfl, by go_num, oc.drewN _, so.kept (kept_drewN _ _), hkw.drewN _, cc, hlo, hB', by omega, by omega⟩
      case measure => simp [intOf]; omega
    have hne : ((t.pl lc).a * t.po s) j ≠ 0 := by
      rw [← hey]
      intro h
      exact h0 (t.e_eq (by rw [hy]; exact gpS_bd t lc s j _) ⟨by omega, by omega⟩ (by rw [h, t.e_zero]))
    have hog : inn G.q og ≠ 0 := fun h => hB.out.hb (t.e_nz.2 h)
    have ty : (y == 0) = false := by simpa using h0
    obtain ⟨qv, hq⟩ : ∃ qv, qv = mulG G y (invG G og) := ⟨_, rfl⟩
    have HQ : Hid (mulG G y (invG G og) = qv) := hid hq.symm
    have hqe : t.e qv = ((t.pl lc).a * t.po s) j * Cw.Fd.inv (t.e og) := by rw [hq, t.e_mul, t.e_invG hog, hey]
    have hbn : Hid (t.pl lc - t.pl (List.replicate since 0 ++ lo.map (mulG G qv)) = Pl.bmn (t.pl lc) (t.pl lo) (((t.pl lc).a * t.po s) j * Cw.Fd.inv (t.e og)) since) := hid (by
      rw [pl_shift, t.pl_map, hqe]; rfl)
    have HNE := hid hne
    have HOG := hid hog
    have HEY := hid hey
    have hbj : Hid (2 * l ≤ j → Pl.BM (t.po s) (Pl.bmn (t.pl lc) (t.pl lo) (((t.pl lc).a * t.po s) j * Cw.Fd.inv (t.e og)) since) (t.pl lc) (t.e y) (j + 1 - l) 1 (j + 1)) := hid (fun h => by rw [hey]; exact Pl.bm_jump hB.out hne h)
    have hbs : Hid (j < 2 * l → Pl.BM (t.po s) (Pl.bmn (t.pl lc) (t.pl lo) (((t.pl lc).a * t.po s) j * Cw.Fd.inv (t.e og)) since) (t.pl lo) (t.e og) l (since + 1) (j + 1)) := hid (fun h => Pl.bm_stay hB.out h)
    clear hy hey hlt h0 hne hog hq hqe
    go_wp2_with (first
      | (go_at_call 44; (with_reducible refine (gap_any b G t _ _ lc s j _ hgw scw ssw GAP.out).mono ?_); rintro e w3 ⟨rfl, n3, rfl⟩; rw [HY.out])
      | (go_at_call 55; (with_reducible refine (div_ok b G y og _ (hgw.drewN _) t HOG.out).mono ?_); rintro e w4 ⟨rfl, n4, rfl⟩; rw [HQ.out]))
    have hmk := run_make_ints since (by omega)
    have hkc := kept_drewN wr (n3 + n4 + 1)
    have kA1 := hkc.tr (kept_alloc (wr.drewN (n3 + n4 + 1)) (.cells (madeCells #[.int .i64 0] since) 3))
    have hZA : Own ((wr.drewN (n3 + n4 + 1)).alloc (.cells (madeCells #[.int .i64 0] since) 3)) wr.heap.size (.slice (some ⟨wr.heap.size, 0, none⟩) since since) (List.replicate since 0) := own_make_ints (w := wr.drewN (n3 + n4 + 1)) (B := wr.heap.size) (by omega) (Nat.le_refl _)
    have hww : w.heap.size ≤ wr.heap.size := hkw.size
    have hlx : (List.replicate since (0 : Int)).length + lo.length ≤ 1000000 := by rw [List.length_replicate]; omega
    have hlx2 : (List.replicate since (0 : Int) ++ lo.map (mulG G qv)).length ≤ 100000 := by rw [List.length_append, List.length_replicate, List.length_map]; omega
    go_region_held3 (fun _ => True) (exact trivial)
      (first
        | (go_at_call 56; (with_reducible refine (scale_any b G qv _ lo ((wr.drewN (n3 + n4 + 1)).alloc (.cells (madeCells #[.int .i64 0] since) 3)) (hgw.kept kA1) t (so.kept kA1) (by omega)).mono ?_); rintro e wS ⟨rfl, oS, kS⟩; have hZ := hZA.kept kS; have hkS := kA1.tr kS; rw [World.size_alloc] at oS; have hSA := own_addr oS)
        | (go_at_call 56; (with_reducible refine (scale_any b G qv _ lo (wr.drewN (n3 + n4 + 1)) (hgw.drewN _) t (so.kept (kept_drewN _ _)) (by omega)).mono ?_); rintro e wS ⟨rfl, oS, kS⟩; have hZ : Own (wS.alloc (.cells (madeCells #[.int .i64 0] since) 3)) wr.heap.size (.slice (some ⟨wS.heap.size, 0, none⟩) since since) (List.replicate since 0) := own_make_ints (w := wS) (B := wr.heap.size) (by omega) (hkc.tr kS).size; have hkS := (hkc.tr kS).tr (kept_alloc wS (.cells (madeCells #[.int .i64 0] since) 3)); have hSA := own_addr (oS.kept (kept_alloc wS (.cells (madeCells #[.int .i64 0] since) 3))))
        | (refine step_append_ints rfl (.tmp 41) (.tmp 45) rfl wr.heap.size _ (List.replicate since 0) rfl hZ _ lo.length lo.length (lo.map (mulG G qv)) rfl (by simp) (fun e => by cases e) (fun _ e => by cases e) hSA hlx hkS.size ?_; intro v5 w5 o5 gr5 _; have hk5 : Kept wr w5 := below_append hkS hkS.size hZ (Nat.le_refl _) gr5; clear gr5))
    all_goals
      have hg5 := hgw.kept hk5
      have sc5 := scw.kept hk5
      have s5 := o5.sl
      have so5 := so.kept hk5
      clear hmk hZA kA1 hkc
      go_wp2_with (fail)
      refine (psub_p b G t _ _ lc (List.replicate since 0 ++ lo.map (mulG G qv)) _ hg5 sc5 s5 (by omega) hlx2).mono ?_
      rintro e w6 ⟨v6, l6, rfl, o6, k6, c6, p6⟩
      have P6 := hid (p6.trans hbn.out)
      have kN := hkw.tr (hk5.tr k6)
      have O6 := o6.mono (show w.heap.size ≤ w5.heap.size from Nat.le_trans hww hk5.size)
      have sc6 := sc5.kept k6
      have so6 := so5.kept k6
      have w1' : IntKind.i64.wrap (2 * (l : Int)) = 2 * (l : Int) := IntWalk.i64_in _ (by omega)
      clear p6 o6
      by_cases h2 : 2 * l ≤ j
      · have h2i : 2 * (l : Int) ≤ (j : Int) := by omega
        have w3' : IntKind.i64.wrap ((j : Int) + 1 - (l : Int)) = ((j + 1 - l : Nat) : Int) := by rw [IntWalk.i64_in _ (by omega)]; omega
        have w2' : IntKind.i64.wrap ((j : Int) + 1) = (j : Int) + 1 := IntWalk.i64_in _ (by omega)
        have HB := hid (hbj.out h2)
        clear h2
        go_wp2_with (go_at_call 35; (with_reducible refine (shortest1_any _ _).mono ?_); rintro e w7 ⟨rfl, rfl⟩)
        clear w1' w2' w3'
        go_roundw
        case rel => exact ⟨j + 1, j + 1 - l, 1, y, l6, lc, by omega, by go_num, rfl, rfl, rfl, O6, sc6, kN, c6, by omega, hid (by rw [P6.out]; exact HB.out), by omega, by omega⟩
        case measure => simp [intOf]; omega
      · have h2i : (j : Int) < 2 * (l : Int) := by omega
        have HB := hid (hbs.out (by omega))
        clear h2
        go_wp2_with (go_at_call 35; (with_reducible refine (shortest1_any _ _).mono ?_); rintro e w7 ⟨rfl, rfl⟩)
        clear w1'
        go_roundw
        case rel => exact ⟨j + 1, l, since + 1, og, l6, lo, by omega, by go_num, rfl, rfl, by go_num, O6, so6, kN, c6, hlo, hid (by rw [P6.out]; exact HB.out), by omega, by omega⟩
        case measure => simp [intOf]; omega
theorem shortest_any (b : Nat) (G : GFd) (t : Tabs G) (vs : Value) (s : List Int) (w : World) (hg : IsGF w b G) (hs : Sl w vs s) (hl : s.length ≤ 300) :
    Calls Try.prog 16 #[.pointer (some ⟨b, 0, none⟩), vs] w (OutR t s w) := by
  go_enter Try.func16, Try.ntmps16
  go_wp2_with (fail)
  refine (run_s b G t vs s _ hg hs hl).mono ?_
  rintro e w1 ⟨v, lc, l, rfl, h1, h2, h3, h4⟩
  go_wp2_with (fail)
  go_ret2
  exact ⟨v, lc, l, rfl, h1, h2, h3, h4⟩
end Go.Proofs.Ytmakdclgpeochaa
