/- The walk of the law LfsrSums. No conditions. -/
import Derived.Test.YtmakdclgpeochaaNe
import Derived.Test.YtmakdclgpeochaaNf
import Derived.Test.YtmakdclgpeochaaIa
namespace Go.Proofs.Ytmakdclgpeochaa
open Go.RowKit Cw

theorem own_other {w : World} {B g g' n cap i : Nat} {xs : List Int} {u : Value} (h : Own w B (.slice (some ⟨g, 0, none⟩) n cap) xs) (hn : g ≠ g') : Own (w.setCell ⟨g', i, none⟩ u) B (.slice (some ⟨g, 0, none⟩) n cap) xs := h.of_block (Below.heap_setCell _ _ _ _ hn)
theorem sums_cx {G : GFd} (t : Tabs G) {u x ts ss : List Int} {n : Nat} (ht : ∀ i, i < n → ts.getD i 0 = inn G.q (x.getD i 0)) (hs : ∀ i, i < n → ss.getD i 0 = addG G (u.getD i 0) (inn G.q (x.getD i 0))) : Pl.cx (t.po ss) n ≤ Pl.cx (t.po u) n + Pl.cx (t.po ts) n := by
  refine Nat.le_trans (Nat.le_of_eq ?_) (Pl.cx_add (t.po u) (t.po ts) n)
  refine Pl.cx_congr (fun i hi => ?_)
  show t.e (ss.getD i 0) = t.e (u.getD i 0) + t.e (ts.getD i 0)
  rw [hs i hi, ht i hi, t.e_add]
theorem mult_cx {G : GFd} (t : Tabs G) {u ms : List Int} {n : Nat} {a : Int} (hm : ∀ i, i < n → ms.getD i 0 = mulG G a (u.getD i 0)) : Pl.cx (t.po ms) n = Pl.cx (t.po u) n ∨ (inn G.q a = 0 ∧ Pl.cx (t.po ms) n = 0) := by
  have e : Pl.cx (t.po ms) n = Pl.cx (PS.C (t.e a) * t.po u) n := Pl.cx_congr (fun i hi => by
    rw [PS.C_mul_at]
    show t.e (ms.getD i 0) = t.e a * t.e (u.getD i 0)
    rw [hm i hi, t.e_mul])
  by_cases h : t.e a = 0
  · refine .inr ⟨t.e_nz.1 h, ?_⟩
    rw [e, h, PS.C_zero, Rg.zero_mul, Pl.cx_nil]
  · exact .inl (by rw [e, Pl.cx_mul h])
set_option maxRecDepth 100000 in
set_option maxHeartbeats 4000000 in
theorem lfsrSums_law (P M : Int) (vm : Value) (mod : List Int) (vu vx : Value) (u x : List Int) (a : Int) (w : World) (hvm : Sl w vm mod) (hu : Sl w vu u) (hx : Sl w vx x) :
    Calls Try.prog 8 #[.agg #[.int .i64 P, .int .i64 M, vm], .agg #[vu, vx], .int .i64 a] w fun e w' => e = .returned (.bool true) ∧ Kept w w' := by
  have hkc := kept_alloc w (.cells #[.int .i64 P, .int .i64 M, vm] 24)
  have bb := boxF_new w P M vm 24
  have sm := hvm.kept hkc
  have hkb := kept_alloc (w.alloc (.cells #[.int .i64 P, .int .i64 M, vm] 24)) (.cells #[vu, vx] 36)
  have bx0 : Bx ((w.alloc (.cells #[.int .i64 P, .int .i64 M, vm] 24)).alloc (.cells #[vu, vx] 36)) (w.heap.size + 1) 0 vu := ⟨by simp, by simp⟩
  have bx1 : Bx ((w.alloc (.cells #[.int .i64 P, .int .i64 M, vm] 24)).alloc (.cells #[vu, vx] 36)) (w.heap.size + 1) 1 vx := ⟨by simp, by simp⟩
  have bb := bb.kept hkb
  have sm := sm.kept hkb
  have hkc := hkc.tr hkb
  clear hkb
  have su := hu.kept hkc
  obtain ⟨au, capu, rfl, qu1, ⟨qu2, _⟩, _⟩ := hu
  unfold maxLen at qu2
  have sx := hx.kept hkc
  obtain ⟨ax, capx, rfl, qx1, ⟨qx2, _⟩, _⟩ := hx
  unfold maxLen at qx2
  go_enter Try.func8, Try.ntmps8
  go_wp2_with (go_at_call 13; (with_reducible refine (alive5_any _).mono ?_); rintro e w1 ⟨rfl, ka⟩; have bb := bb.kept ka; have sm := sm.kept ka; have hkc := hkc.tr ka; have su := su.kept ka; have sx := sx.kept ka; have bx0 := bx0.kept ka; have bx1 := bx1.kept ka; have d0 := bb.h0; have d1 := bb.h1; have d2 := bb.h2; clear ka)
  by_cases hf : FieldP P M mod
  case neg =>
    have HF := hid hf
    clear hf
    go_wp2_with (go_at_call 14; (with_reducible refine (made5_no P M vm mod _ sm HF.out).mono ?_); rintro e w2 ⟨rfl, k2⟩; have bx0 := bx0.kept k2; have bc0 := bx0.h; have bx1 := bx1.kept k2; have bc1 := bx1.h)
    go_ret
    exact ⟨rfl, hkc.tr k2⟩
  have HF := hid hf
  clear hf
  by_cases hs : Shrt [u, x]
  case neg =>
    have HS := hid hs
    clear hs
    go_wp2_with (first
      | (go_at_call 14; (with_reducible refine (made5_yes P M vm mod _ sm HF.out).mono ?_); rintro e w2 ⟨b, G, rfl, g2, t, gP, gM, gm, k2⟩; have HO : Hid (Of G P M mod) := hid ⟨gP, gM, gm⟩; clear gP gM gm; have hkc := hkc.tr k2; have ff : Fw w2 b G w.heap.size P M vm mod := ⟨g2, bb.kept k2, sm.kept k2⟩; have su := su.kept k2; have sx := sx.kept k2; have bx0 := bx0.kept k2; have bx1 := bx1.kept k2; have bc0 := bx0.h; have bc1 := bx1.h; have d0 := ff.b.h0; have d1 := ff.b.h1; have d2 := ff.b.h2; clear k2 g2 bb sm; have hcur := cur w2)
      | (go_at_call 15; (with_reducible refine (short_r _ [u, x] _ (sll_two _ _ _ _ _ _ _ _ su sx) false (.inr ⟨rfl, HS.out⟩)).mono ?_); rintro e w3 ⟨rfl, k3⟩; have hst := Kept.tr (kept_alloc _ _) k3; have hkc := hkc.tr hst; have ff := ff.kept hst; have su := su.kept hst; have sx := sx.kept hst; have bx0 := bx0.kept hst; have bx1 := bx1.kept hst; clear hst k3 hcur; have hcur := cur w3; have d0 := ff.b.h0; have d1 := ff.b.h1; have d2 := ff.b.h2; have bc0 := bx0.h; have bc1 := bx1.h))
    go_ret
    exact ⟨rfl, hkc⟩
  have HS := hid hs
  have nu : u.length ≤ 24 := hs _ (by simp)
  have nx : x.length ≤ 24 := hs _ (by simp)
  clear hs
  have hmk := run_make_ints u.length (by omega)
  go_wp2_with (first
    | (go_at_call 14; (with_reducible refine (made5_yes P M vm mod _ sm HF.out).mono ?_); rintro e w2 ⟨b, G, rfl, g2, t, gP, gM, gm, k2⟩; have HO : Hid (Of G P M mod) := hid ⟨gP, gM, gm⟩; clear gP gM gm; have hkc := hkc.tr k2; have ff : Fw w2 b G w.heap.size P M vm mod := ⟨g2, bb.kept k2, sm.kept k2⟩; have su := su.kept k2; have sx := sx.kept k2; have bx0 := bx0.kept k2; have bx1 := bx1.kept k2; have bc0 := bx0.h; have bc1 := bx1.h; have d0 := ff.b.h0; have d1 := ff.b.h1; have d2 := ff.b.h2; clear k2 g2 bb sm; have hcur := cur w2)
    | (go_at_call 15; (with_reducible refine (short_r _ [u, x] _ (sll_two _ _ _ _ _ _ _ _ su sx) true (.inl ⟨rfl, HS.out⟩)).mono ?_); rintro e w3 ⟨rfl, k3⟩; have hst := Kept.tr (kept_alloc _ _) k3; have hkc := hkc.tr hst; have ff := ff.kept hst; have su := su.kept hst; have sx := sx.kept hst; have bx0 := bx0.kept hst; have bx1 := bx1.kept hst; clear hst k3 hcur; have hcur := cur w3; have d0 := ff.b.h0; have d1 := ff.b.h1; have d2 := ff.b.h2; have bc0 := bx0.h; have bc1 := bx1.h))
  obtain ⟨wL, hwL⟩ : ∃ y, y = w3 := ⟨_, rfl⟩
  subst hwL
  obtain ⟨N, hN⟩ : ∃ N, N = wL.heap.size := ⟨_, rfl⟩
  have k1 := kept_alloc wL (.cells (madeCells #[.int .i64 0] u.length) 3)
  have k2 := kept_alloc (wL.alloc (.cells (madeCells #[.int .i64 0] u.length) 3)) (.cells (madeCells #[.int .i64 0] u.length) 3)
  have k3 := kept_alloc ((wL.alloc (.cells (madeCells #[.int .i64 0] u.length) 3)).alloc (.cells (madeCells #[.int .i64 0] u.length) 3)) (.cells (madeCells #[.int .i64 0] u.length) 3)
  have o1 := ((own_make_ints (w := wL) (n := u.length) (B := wL.heap.size) (by omega) (Nat.le_refl _)).kept k2).kept k3
  have o2 := (own_make_ints (w := wL.alloc (.cells (madeCells #[.int .i64 0] u.length) 3)) (n := u.length) (B := wL.heap.size) (by omega) (by simp)).kept k3
  have o3 := own_make_ints (w := (wL.alloc (.cells (madeCells #[.int .i64 0] u.length) 3)).alloc (.cells (madeCells #[.int .i64 0] u.length) 3)) (n := u.length) (B := wL.heap.size) (by omega) (by simp; omega)
  simp only [World.size_alloc] at o2 o3
  have k0 := (k1.tr k2).tr k3
  have hwlt : w.heap.size < wL.heap.size := ff.b.lt
  obtain ⟨W0, hW0⟩ : ∃ y, y = ((wL.alloc (.cells (madeCells #[.int .i64 0] u.length) 3)).alloc (.cells (madeCells #[.int .i64 0] u.length) 3)).alloc (.cells (madeCells #[.int .i64 0] u.length) 3) := ⟨_, rfl⟩
  rw [← hW0] at o1 o2 o3 k0 ⊢
  have hz0 : ∀ i, (List.replicate u.length (0 : Int)).getD i 0 = 0 := fun i => by
    by_cases hi : i < u.length
    · simp [List.getD, hi]
    · simp [List.getD, hi]
  have HZ0 := hid hz0
  have hbL := ff.b
  have bxL := bx1
  have suL := su
  have sxL := sx
  have hmL := ff.m
  have hgL := ff.g
  have HQ : Hid (ordS P M = G.q) := hid (by rw [← HO.out.1, ← HO.out.2.1, ← t.hq])
  clear hmk k1 k2 k3 hW0 hz0 hN N
  go_loopw [48] (fun vi wr => ∃ (k : Nat) (ts ss ms : List Int), k ≤ u.length ∧ vi = .int .i64 k ∧ Kept wL wr ∧ Own wr wL.heap.size (.slice (some ⟨wL.heap.size, 0, none⟩) u.length u.length) ts ∧ Own wr wL.heap.size (.slice (some ⟨wL.heap.size + 1, 0, none⟩) u.length u.length) ss ∧ Own wr wL.heap.size (.slice (some ⟨wL.heap.size + 1 + 1, 0, none⟩) u.length u.length) ms ∧
      Hid (ts.length = u.length ∧ ss.length = u.length ∧ ms.length = u.length) ∧ Hid (∀ i, i < k → ts.getD i 0 = inn G.q (x.getD i 0)) ∧ Hid (∀ i, i < k → ss.getD i 0 = addG G (u.getD i 0) (inn G.q (x.getD i 0))) ∧ Hid (∀ i, i < k → ms.getD i 0 = mulG G a (u.getD i 0))) (fun vi _ => u.length - (intOf vi).toNat)
  case atStart => exact ⟨0, _, _, _, by omega, rfl, k0, o1, o2, o3, hid (by simp), hid (fun i h => by omega), hid (fun i h => by omega), hid (fun i h => by omega)⟩
  case round =>
    obtain ⟨k, ts, ss, ms, hk, rfl, hkw, ot, os, om, HL, HT, HS', HM⟩ := hrel
    clear o1 o2 o3 k0
    by_cases hlt : k < u.length
    case pos =>
      have su2 := suL
      obtain ⟨_, _, e1, _, _, hcu⟩ := su2
      cases e1
      obtain ⟨bu, offu, e2, hbu, hcell⟩ := hcu (by intro e; rw [e] at hlt; simp at hlt)
      cases e2
      have hc := hcell k hlt
      obtain ⟨z, hz⟩ : ∃ z, z = u.getD k 0 := ⟨_, rfl⟩
      obtain ⟨y, hy⟩ : ∃ y, y = inn G.q (x.getD k 0) := ⟨_, rfl⟩
      rw [← hz] at hc
      have HY : Hid (inn G.q (x.getD k 0) = y) := hid hy.symm
      have HT' : Hid (∀ i, i < k + 1 → (ts.set k y).getD i 0 = inn G.q (x.getD i 0)) := hid (fun i hi => by
        by_cases e : i = k
        · subst e; rw [ldset_eq _ (by rw [HL.out.1]; exact hlt), hy]
        · rw [ldset_ne _ (fun e' => e e'.symm)]; exact HT.out i (by omega))
      have HS2 : Hid (∀ i, i < k + 1 → (ss.set k (addG G z y)).getD i 0 = addG G (u.getD i 0) (inn G.q (x.getD i 0))) := hid (fun i hi => by
        by_cases e : i = k
        · subst e; rw [ldset_eq _ (by rw [HL.out.2.1]; exact hlt), hz, hy]
        · rw [ldset_ne _ (fun e' => e e'.symm)]; exact HS'.out i (by omega))
      have HM' : Hid (∀ i, i < k + 1 → (ms.set k (mulG G a z)).getD i 0 = mulG G a (u.getD i 0)) := hid (fun i hi => by
        by_cases e : i = k
        · subst e; rw [ldset_eq _ (by rw [HL.out.2.2]; exact hlt), hz]
        · rw [ldset_ne _ (fun e' => e e'.symm)]; exact HM.out i (by omega))
      have HL' : Hid ((ts.set k y).length = u.length ∧ (ss.set k (addG G z y)).length = u.length ∧ (ms.set k (mulG G a z)).length = u.length) := hid (by simp only [List.length_set]; exact HL.out)
      have hki : (k : Int) < (u.length : Int) := by omega
      have kz0 : (0 : Int) ≤ (k : Int) := by omega
      have hbw := hbL.kept hkw
      have c0 := hbw.h0
      have c1 := hbw.h1
      have c2 := hbw.h2
      have c3 := (bxL.kept hkw).h
      have f1 := ot.cell (i := k) (by rw [HL.out.1]; exact hlt)
      have f2 := ot.frozen k
      have hkc := Kept.rfl' wr
      clear hz hy hcell hcu
      go_wp2_with (go_at_call 22; (with_reducible refine (rAt_p G t P M mod vm _ x k _ HO (sxL.kept (hkw.tr (by first | exact hkc | exact hkc.tr (kept_drew _) | exact hkc.tr (kept_drewN _ _)))) (by omega)).mono ?_); rintro e wx ⟨rfl, kx⟩; rw [HY.out]; have hkn := Kept.tr (b := _) (by first | exact hkc | exact hkc.tr (kept_drew _) | exact hkc.tr (kept_drewN _ _)) kx; clear hkc kx; have hkc := hkn; clear hkn; have bxx := hbw.kept hkc; have d0 := bxx.h0; have d1 := bxx.h1; have d2 := bxx.h2; have f3 := (ot.kept hkc).cell (i := k) (by rw [HL.out.1]; exact hlt); have f4 := (ot.kept hkc).frozen k)
      have k5 := hkw.tr hkc
      have ot5 := (ot.kept hkc).set k y
      have os5 := own_other (i := k) (u := .int .i64 y) (os.kept hkc) (g' := wL.heap.size) (by omega)
      have om5 := own_other (i := k) (u := .int .i64 y) (om.kept hkc) (g' := wL.heap.size) (by omega)
      have k6 := Below.setCell k5 (p := ⟨wL.heap.size, k, none⟩) (Nat.le_refl _) (.int .i64 y)
      obtain ⟨W5, hW5⟩ : ∃ W, W = wx.setCell ⟨wL.heap.size, k, none⟩ (.int .i64 y) := ⟨_, rfl⟩
      rw [← hW5] at ot5 os5 om5 k6 ⊢
      have hkw5 : Kept wL W5 := k6
      have hbw := hbL.kept hkw5
      have smw := hmL.kept hkw5
      have c0 := hbw.h0
      have c1 := hbw.h1
      have c2 := hbw.h2
      have r1 := (Kept.cell' hkw5 hbu).trans hc
      have r2 := ot5.cell (i := k) (by rw [List.length_set, HL.out.1]; exact hlt)
      rw [ldset_eq _ (by rw [HL.out.1]; exact hlt)] at r2
      have q1 := os5.cell (i := k) (by rw [HL.out.2.1]; exact hlt)
      have q2 := os5.frozen k
      have hbu5 := Kept.lt hkw5 hbu
      have ht5 := ot5.lt.2
      clear hkc ot os om hW5 k6 k5
      have hkc := Kept.rfl' W5
      go_region_held3 (fun w' => w'.cell? ⟨w.heap.size, 0, none⟩ = some (.int .i64 P) ∧ w'.cell? ⟨w.heap.size, 1, none⟩ = some (.int .i64 M) ∧ w'.cell? ⟨w.heap.size, 2, none⟩ = some vm ∧ w'.cell? ⟨bu, offu + k, none⟩ = some (.int .i64 z) ∧ w'.cell? ⟨wL.heap.size, k, none⟩ = some (.int .i64 y)) (first | (simp [go_sem]; done) | (refine ⟨?_, ?_, ?_, ?_, ?_⟩ <;> (rw [cell_setNe _ (by omega)]; assumption)) | (simp [*]; done))
        (first
          | (go_at_call 23; (with_reducible refine (rAdd_field G t P M mod vm z y _ HO.out).mono ?_); rintro e wx ⟨rfl, kx⟩; have hkn := Kept.tr (b := _) (by first | exact hkc | exact hkc.tr (kept_drew _) | exact hkc.tr (kept_drewN _ _)) kx; clear hkc kx; have hkc := hkn; clear hkn; have bxx := hbw.kept hkc; have d0 := bxx.h0; have d1 := bxx.h1; have d2 := bxx.h2; have d3 := (Kept.cell' hkc hbu5).trans r1; have d4 := (Kept.cell' hkc ht5).trans r2; have d5 := (os5.kept hkc).cell (i := k) (by rw [HL.out.2.1]; exact hlt); have d6 := (os5.kept hkc).frozen k))
      all_goals
        have k7 := Below.setCell (hkw5.tr hkc) (p := ⟨wL.heap.size + 1, k, none⟩) (Nat.le_succ _) (.int .i64 (addG G z y))
        have ot7 := own_other (i := k) (u := .int .i64 (addG G z y)) (ot5.kept hkc) (g' := wL.heap.size + 1) (by omega)
        have os7 := (os5.kept hkc).set k (addG G z y)
        have om7 := own_other (i := k) (u := .int .i64 (addG G z y)) (om5.kept hkc) (g' := wL.heap.size + 1) (by omega)
        obtain ⟨W7, hW7⟩ : ∃ W, W = wx.setCell ⟨wL.heap.size + 1, k, none⟩ (.int .i64 (addG G z y)) := ⟨_, rfl⟩
        rw [← hW7] at ot7 os7 om7 k7 ⊢
        have hkw7 : Kept wL W7 := k7
        have hbw := hbL.kept hkw7
        have smw := hmL.kept hkw7
        have c0 := hbw.h0
        have c1 := hbw.h1
        have c2 := hbw.h2
        have r1 := (Kept.cell' hkw7 hbu).trans hc
        have q1 := om7.cell (i := k) (by rw [HL.out.2.2]; exact hlt)
        have q2 := om7.frozen k
        have hbu7 := Kept.lt hkw7 hbu
        clear hkc ot5 os5 om5 hW7 k7 r2 q2 q1 f1 f2
        have q1 := om7.cell (i := k) (by rw [HL.out.2.2]; exact hlt)
        have q2 := om7.frozen k
        have hkc := Kept.rfl' W7
        go_wp2_with (fail)
        go_region_held3 (fun w' => w'.cell? ⟨w.heap.size, 0, none⟩ = some (.int .i64 P) ∧ w'.cell? ⟨w.heap.size, 1, none⟩ = some (.int .i64 M) ∧ w'.cell? ⟨w.heap.size, 2, none⟩ = some vm ∧ w'.cell? ⟨bu, offu + k, none⟩ = some (.int .i64 z)) (first | (simp [go_sem]; done) | (refine ⟨?_, ?_, ?_, ?_⟩ <;> (rw [cell_setNe _ (by omega)]; assumption)) | (simp [*]; done))
          (first
            | (go_at_call 24; (with_reducible refine (rMul_field G t P M mod vm a z _ HO.out (smw.kept (by first | exact hkc | exact hkc.tr (kept_drew _) | exact hkc.tr (kept_drewN _ _)))).mono ?_); rintro e wx ⟨rfl, kx⟩; have hkn := Kept.tr (b := _) (by first | exact hkc | exact hkc.tr (kept_drew _) | exact hkc.tr (kept_drewN _ _)) kx; clear hkc kx; have hkc := hkn; clear hkn; have bxx := hbw.kept hkc; have d0 := bxx.h0; have d1 := bxx.h1; have d2 := bxx.h2; have d3 := (Kept.cell' hkc hbu7).trans r1; have d5 := (om7.kept hkc).cell (i := k) (by rw [HL.out.2.2]; exact hlt); have d6 := (om7.kept hkc).frozen k))
        all_goals
          have k8 := Below.setCell (hkw7.tr hkc) (p := ⟨wL.heap.size + 1 + 1, k, none⟩) (Nat.le_trans (Nat.le_succ _) (Nat.le_succ _)) (.int .i64 (mulG G a z))
          have ot8 := own_other (i := k) (u := .int .i64 (mulG G a z)) (ot7.kept hkc) (g' := wL.heap.size + 1 + 1) (by omega)
          have os8 := own_other (i := k) (u := .int .i64 (mulG G a z)) (os7.kept hkc) (g' := wL.heap.size + 1 + 1) (by omega)
          have om8 := (om7.kept hkc).set k (mulG G a z)
          go_wp2_with (fail)
          go_roundw
          case rel => exact ⟨k + 1, _, _, _, by omega, by go_num, by first | exact k8 | exact k8.drew | exact k8.drewN _, by first | exact ot8 | exact ot8.drew | exact ot8.drewN _, by first | exact os8 | exact os8.drew | exact os8.drewN _, by first | exact om8 | exact om8.drew | exact om8.drewN _, HL', HT', HS2, HM'⟩
          case measure => simp [intOf]; omega
    case neg =>
      have hk' : k = u.length := by omega
      subst hk'
      have sts := ot.sl
      have sss := os.sl
      have sms := om.sl
      have ff : Fw wr b G w.heap.size P M vm mod := Fw.kept ‹Fw wL b G w.heap.size P M vm mod› hkw
      have su := suL.kept hkw
      have nts : ts.length ≤ 24 := by rw [HL.out.1]; exact nu
      have nss : ss.length ≤ 24 := by rw [HL.out.2.1]; exact nu
      have nms : ms.length ≤ 24 := by rw [HL.out.2.2]; exact nu
      have X1 : Hid (Pl.cx (t.po ss) u.length ≤ Pl.cx (t.po u) u.length + Pl.cx (t.po ts) u.length) := hid (sums_cx t HT.out HS'.out)
      have X2 := mult_cx t HM.out
      have hkc := hkc.tr hkw
      have hcur := cur wr
      clear HT HS' HM ot os om
      go_wp2_with (first
        | (go_at_call 16; (with_reducible refine (shortest_any b G t _ u _ (ff.g.kept (by first | exact Kept.rfl' _ | exact kept_alloc _ _ | exact kept_drew _ | exact kept_drewN _ _ | exact (kept_drew _).drewN _)) (su.kept (by first | exact Kept.rfl' _ | exact kept_alloc _ _ | exact kept_drew _ | exact kept_drewN _ _ | exact (kept_drew _).drewN _)) (by omega)).mono ?_); rintro e wx ⟨v3, l3, m3, rfl, o3, kx, c3, old3, bb3, since3, hbm3⟩; have hst := Kept.from hcur (by first | exact Kept.rfl' _ | exact kept_alloc _ _ | exact kept_drew _ | exact kept_drewN _ _ | exact (kept_drew _).drewN _) kx; clear hcur kx; have hcur := cur wx; have hkc := hkc.tr hst; have ff := ff.kept hst; have su := su.kept hst; have sts := sts.kept hst; have sss := sss.kept hst; have sms := sms.kept hst; clear hst; have d0 := ff.b.h0; have d1 := ff.b.h1; have d2 := ff.b.h2; have s3 := o3.sl; have BM3 := hid hbm3; have m3b : m3 ≤ u.length := (by have := hbm3.s1; have := hbm3.s2; omega); have n3 : l3.length ≤ 301 := (by have h1 := hbm3.reg.len; rw [t.can_ln c3] at h1; omega); clear hbm3 o3)
        | (go_at_call 16; (with_reducible refine (shortest_any b G t _ ts _ (ff.g.kept (by first | exact Kept.rfl' _ | exact kept_alloc _ _ | exact kept_drew _ | exact kept_drewN _ _ | exact (kept_drew _).drewN _)) (sts.kept (by first | exact Kept.rfl' _ | exact kept_alloc _ _ | exact kept_drew _ | exact kept_drewN _ _ | exact (kept_drew _).drewN _)) (by omega)).mono ?_); rintro e wx ⟨v4, l4, m4, rfl, o4, kx, c4, old4, bb4, since4, hbm4⟩; have hst := Kept.from hcur (by first | exact Kept.rfl' _ | exact kept_alloc _ _ | exact kept_drew _ | exact kept_drewN _ _ | exact (kept_drew _).drewN _) kx; clear hcur kx; have hcur := cur wx; have hkc := hkc.tr hst; have ff := ff.kept hst; have su := su.kept hst; have sts := sts.kept hst; have sss := sss.kept hst; have sms := sms.kept hst; clear hst; have d0 := ff.b.h0; have d1 := ff.b.h1; have d2 := ff.b.h2; have s4 := o4.sl; have BM4 := hid hbm4; have m4b : m4 ≤ ts.length := (by have := hbm4.s1; have := hbm4.s2; omega); have n4 : l4.length ≤ 301 := (by have h1 := hbm4.reg.len; rw [t.can_ln c4] at h1; omega); clear hbm4 o4)
        | (go_at_call 16; (with_reducible refine (shortest_any b G t _ ss _ (ff.g.kept (by first | exact Kept.rfl' _ | exact kept_alloc _ _ | exact kept_drew _ | exact kept_drewN _ _ | exact (kept_drew _).drewN _)) (sss.kept (by first | exact Kept.rfl' _ | exact kept_alloc _ _ | exact kept_drew _ | exact kept_drewN _ _ | exact (kept_drew _).drewN _)) (by omega)).mono ?_); rintro e wx ⟨v5, l5, m5, rfl, o5, kx, c5, old5, bb5, since5, hbm5⟩; have hst := Kept.from hcur (by first | exact Kept.rfl' _ | exact kept_alloc _ _ | exact kept_drew _ | exact kept_drewN _ _ | exact (kept_drew _).drewN _) kx; clear hcur kx; have hcur := cur wx; have hkc := hkc.tr hst; have ff := ff.kept hst; have su := su.kept hst; have sts := sts.kept hst; have sss := sss.kept hst; have sms := sms.kept hst; clear hst; have d0 := ff.b.h0; have d1 := ff.b.h1; have d2 := ff.b.h2; have s5 := o5.sl; have BM5 := hid hbm5; have m5b : m5 ≤ ss.length := (by have := hbm5.s1; have := hbm5.s2; omega); have n5 : l5.length ≤ 301 := (by have h1 := hbm5.reg.len; rw [t.can_ln c5] at h1; omega); clear hbm5 o5))
      refine (shortest_any b G t _ ms _ (ff.g.kept (by first | exact Kept.rfl' _ | exact kept_alloc _ _ | exact kept_drew _ | exact kept_drewN _ _ | exact (kept_drew _).drewN _)) (sms.kept (by first | exact Kept.rfl' _ | exact kept_alloc _ _ | exact kept_drew _ | exact kept_drewN _ _ | exact (kept_drew _).drewN _)) (by omega)).mono ?_
      rintro e wx ⟨v6, l6, m6, rfl, o6, kx, c6, old6, bb6, since6, hbm6⟩
      have hst := Kept.from hcur (by first | exact Kept.rfl' _ | exact kept_alloc _ _ | exact kept_drew _ | exact kept_drewN _ _ | exact (kept_drew _).drewN _) kx
      clear hcur kx
      have hcur := cur wx
      have hkc := hkc.tr hst
      have ff := ff.kept hst
      have su := su.kept hst
      have sts := sts.kept hst
      have sss := sss.kept hst
      have sms := sms.kept hst
      clear hst
      have d0 := ff.b.h0
      have d1 := ff.b.h1
      have d2 := ff.b.h2
      have s6 := o6.sl
      have BM6 := hid hbm6
      have m6b : m6 ≤ ms.length := (by have := hbm6.s1; have := hbm6.s2; omega)
      have n6 : l6.length ≤ 301 := (by have h1 := hbm6.reg.len; rw [t.can_ln c6] at h1; omega)
      clear hbm6 o6
      have E3 : Pl.cx (t.po u) u.length = m3 := Pl.cx_of BM3.out.cx
      have E4 : Pl.cx (t.po ts) u.length = m4 := by have h := Pl.cx_of BM4.out.cx; rw [HL.out.1] at h; exact h
      have E5 : Pl.cx (t.po ss) u.length = m5 := by have h := Pl.cx_of BM5.out.cx; rw [HL.out.2.1] at h; exact h
      have E6 : Pl.cx (t.po ms) u.length = m6 := by have h := Pl.cx_of BM6.out.cx; rw [HL.out.2.2] at h; exact h
      have X1 := X1.out
      rw [E3, E4, E5] at X1
      rw [E3, E6] at X2
      have y1 : (m5 : Int) ≤ (m3 : Int) + (m4 : Int) := by omega
      have y2 : IntKind.i64.wrap ((m3 : Int) + (m4 : Int)) = (m3 : Int) + (m4 : Int) := IntWalk.i64_in _ (by omega)
      clear E3 E4 E5 E6 X1
      by_cases y3 : m6 = m3
      · have y4 : ((m6 : Int) == (m3 : Int)) = true := by rw [y3]; simp
        clear y3 X2
        go_wp2_with (fail)
        go_ret
        exact ⟨rfl, hkc⟩
      obtain ⟨y5, y6⟩ := X2.resolve_left y3
      subst y6
      have y4 : (((0 : Nat) : Int) == (m3 : Int)) = false := by simp; omega
      have AE : Hid (inn (ordS P M) a = 0) := hid (by rw [HQ.out]; exact y5)
      clear y3 X2 y5
      go_wp2_with (first
        | (go_at_call 25; (with_reducible refine (rIn_any P M vm a _).mono ?_); rintro e wx ⟨rfl, kx⟩; have hst := Kept.from hcur (by first | exact Kept.rfl' _ | exact kept_alloc _ _ | exact kept_drew _ | exact kept_drewN _ _ | exact (kept_drew _).drewN _) kx; clear hcur kx; have hcur := cur wx; have hkc := hkc.tr hst; rw [AE.out]; clear hst))
      all_goals
        go_ret
        exact ⟨rfl, hkc⟩
end Go.Proofs.Ytmakdclgpeochaa
