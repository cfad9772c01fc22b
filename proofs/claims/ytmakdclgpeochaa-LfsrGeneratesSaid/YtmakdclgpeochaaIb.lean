/- The walk of the reference's Generate. Conditions: a field's description; lengths are bounded. -/
import Derived.Test.YtmakdclgpeochaaIa
import Derived.Test.YtmakdclgpeochaaHd
import Derived.Test.YtmakdclgpeochaaRk
namespace Go.Proofs.Ytmakdclgpeochaa
open Go.RowKit Cw

theorem rAt_n (G : GFd) (t : Tabs G) (P M : Int) (mod : List Int) (vm : Value) (v : Value) (p : List Int) (i : Nat) (I : Int) (hI : I = (i : Int)) (w : World) (ho : Hid (Of G P M mod)) (hv : Sl w v p) (hi : i ≤ 1000000) :
    Calls Try.prog 22 #[.agg #[.int .i64 P, .int .i64 M, vm], v, .int .i64 I] w fun e w' => e = .returned (.int .i64 (inn G.q (p.getD i 0))) ∧ Kept w w' := by
  subst hI
  exact rAt_p G t P M mod vm v p i w ho hv hi
theorem cell_setNi {w : World} {g i k : Nat} (u : Value) (h : i ≠ k) : (w.setCell ⟨g, i, none⟩ u).cell? ⟨g, k, none⟩ = w.cell? ⟨g, k, none⟩ := by
  refine World.cell?_setCell_other (h := ?_) ..
  intro e; cases e; exact h rfl
/-- The first k terms of the reference's entry. -/
def sbS (G : GFd) (c us : List Int) (j : Nat) : Nat → Int
  | 0 => 0
  | k + 1 => addG G (sbS G c us j k) (negG G (mulG G (inn G.q (c.getD (k + 1) 0)) (us.getD (j - (k + 1)) 0)))
theorem sbS_bd {G : GFd} (t : Tabs G) (c us : List Int) (j : Nat) : ∀ k, 0 ≤ sbS G c us j k ∧ sbS G c us j k < G.q
  | 0 => by have := t.qb; unfold sbS; omega
  | _ + 1 => t.add_bd _ _
theorem e_sbS {G : GFd} (t : Tabs G) (c us : List Int) (j : Nat) : ∀ k, t.e (sbS G c us j k) = -Rg.sm k (fun i => (t.pl c).a (i + 1) * t.po us (j - (i + 1)))
  | 0 => by rw [Rg.sm_zero, Rg.neg_zero]; exact t.e_zero
  | k + 1 => by rw [sbS, Rg.sm_succ, t.e_add, t.e_neg, t.e_mul, t.e_inn, e_sbS t c us j k, Rg.neg_add_rev]; rfl
theorem gen_ref {G : GFd} {t : Tabs G} {c f us : List Int} {n j : Nat} (h : GenP t c f us n j) (hj : j < n) (h1 : (t.pl c).a 0 = 1) (h2 : (t.pl c).ln ≤ f.length + 1) (hf : f.length ≤ j) : GenP t c f (us.set j (sbS G c us j f.length)) n (j + 1) := by
  refine gen_set h hj (sbS_bd t c us j _) (fun k => absurd k (by omega)) (fun _ => gen_next h hj h1 ?_)
  have e2 : t.po us j = 0 := by
    show t.e (us.getD j 0) = 0
    rw [h.zer j (Nat.le_refl _), t.e_zero]
  rw [e_sbS, mul_head, e2, Rg.mul_zero, Rg.zero_add]
  congr 1
  exact (Rg.sm_short hf (fun i h3 _ => by rw [Pl.ln_le.1 h2 (i + 1) (by omega), Rg.zero_mul])).symm
set_option maxRecDepth 100000 in
set_option maxHeartbeats 8000000 in
theorem rGenerate_p (G : GFd) (t : Tabs G) (P M : Int) (mod : List Int) (vm : Value) (vc vf : Value) (c f : List Int) (n : Nat) (w : World) (ho : Hid (Of G P M mod)) (hvm : Sl w vm mod) (hc : Sl w vc c) (hf : Sl w vf f) (h1 : (t.pl c).a 0 = 1) (h2 : (t.pl c).ln ≤ f.length + 1) (hfl : f.length ≤ 1000) (hn : n ≤ 4096) :
    Calls Try.prog 31 #[.agg #[.int .i64 P, .int .i64 M, vm], vc, vf, .int .i64 n] w fun e w' => ∃ v l, e = .returned v ∧ Own w' w.heap.size v l ∧ Kept w w' ∧ GenP t c f l n n := by
  have hk0 := kept_alloc w (.cells #[.int .i64 P, .int .i64 M, vm] 24)
  have hbx := boxF_new w P M vm 24
  have smv := hvm.kept hk0
  have svc := hc.kept hk0
  have svf := hf.kept hk0
  have HZ1 : (w.alloc (.cells #[.int .i64 P, .int .i64 M, vm] 24)).heap.size = w.heap.size + 1 := by simp
  have HZ1 := hid HZ1
  obtain ⟨w1, hw1⟩ : ∃ w1, w1 = w.alloc (.cells #[.int .i64 P, .int .i64 M, vm] 24) := ⟨_, rfl⟩
  rw [← hw1] at hk0 hbx smv HZ1 svc svf
  have H1 := hid h1
  have H2 := hid h2
  have svf2 := svf
  obtain ⟨af, capf, rfl, hcf, ⟨hfm, _⟩, hcf'⟩ := svf2
  unfold maxLen at hfm
  have n0 : (0 : Int) ≤ (n : Int) := by omega
  clear h1 h2
  go_enter Try.func31, Try.ntmps31
  go_wp2_with (first
    | (at_make; refine wpList_make_ints rfl _ _ rfl n _ _ rfl rfl rfl rfl (by omega) ?_; intro w2 ho2 hk2; rw [← hw1] at hk2; simp only [World.size_alloc] at ho2))
  clear hw1
  go_loopw [10] (fun vi wr => ∃ (j : Nat) (us : List Int), j ≤ n ∧ vi = .int .i64 j ∧ Own wr (w.heap.size + 1) (.slice (some ⟨w.heap.size + 1, 0, none⟩) n n) us ∧ Kept w1 wr ∧ Hid (GenP t c f us n j)) (fun vi _ => n - (intOf vi).toNat)
  case atStart => exact ⟨0, _, by omega, rfl, ho2, hk2, hid (gen_start t c f n)⟩
  case round =>
    obtain ⟨j, us, hj, rfl, hown, hkw, hG⟩ := hrel
    clear ho2 hk2
    by_cases hlt : j < n
    case neg =>
      obtain rfl : j = n := by omega
      clear hlt
      go_wp2_with (fail)
      go_ret
      exact ⟨_, us, rfl, hown.mono (by omega), hk0.tr hkw, hG.out⟩
    have hbw := hbx.kept hkw
    have c0 := hbw.h0
    have c1 := hbw.h1
    have c2 := hbw.h2
    have smw := smv.kept hkw
    have scw := svc.kept hkw
    have HUL : Hid (us.length = n) := hid hG.out.len
    have hji : (j : Int) < (n : Int) := by omega
    have j0 : (0 : Int) ≤ (j : Int) := by omega
    by_cases hfj : j < f.length
    · obtain ⟨bf, offf, rfl, hbf, hcell⟩ := hcf' (by intro e; rw [e] at hfj; simp at hfj)
      have hck := (Kept.cell' hkw hbf).trans (hcell j hfj)
      have hbf' := Kept.lt hkw hbf
      have hbn : bf < w.heap.size + 1 := Nat.lt_of_lt_of_eq hbf HZ1.out
      obtain ⟨z, hz⟩ : ∃ z, z = f.getD j 0 := ⟨_, rfl⟩
      rw [← hz] at hck
      obtain ⟨y, hy⟩ : ∃ y, y = inn G.q z := ⟨_, rfl⟩
      have HY : Hid (inn (ordS P M) z = y) := hid (by rw [hy, ← ho.out.1, ← ho.out.2.1, ← t.hq])
      have hG' : Hid (GenP t c f (us.set j y) n (j + 1)) := hid (gen_set hG.out hlt (by rw [hy]; exact inn_bd (by have := t.qb; omega) _) (fun _ => by rw [hy, hz]) (fun h => by omega))
      have hcu := hown.cell (i := j) (by rw [HUL.out]; omega)
      have hfu := hown.frozen j
      have hfi : (j : Int) < (f.length : Int) := by omega
      clear hz hy hcell hcf' hfj hlt
      go_wp2_with (fail)
      have hkc := Kept.rfl' wr
      go_region_held3 (fun w' => w'.cell? ⟨w.heap.size, 0, none⟩ = some (.int .i64 P) ∧ w'.cell? ⟨w.heap.size, 1, none⟩ = some (.int .i64 M) ∧ w'.cell? ⟨w.heap.size, 2, none⟩ = some vm ∧ w'.cell? ⟨bf, offf + j, none⟩ = some (.int .i64 z)) (first | (simp [go_sem]; done) | (refine ⟨?_, ?_, ?_, ?_⟩ <;> (rw [cell_setNe _ (by omega)]; assumption)) | (simp [*]; done))
        (first
          | (go_at_call 25; (with_reducible refine (rIn_any P M vm z _).mono ?_); rintro e wx ⟨rfl, kx⟩; rw [HY.out]; have hkn := Kept.tr (b := _) (by first | exact hkc | exact hkc.tr (kept_drew _) | exact hkc.tr (kept_drewN _ _)) kx; clear hkc kx; have hkc := hkn; clear hkn; have bxx := hbw.kept hkc; have d0 := bxx.h0; have d1 := bxx.h1; have d2 := bxx.h2; have d3 := (Kept.cell' hkc hbf').trans hck; have ownx := hown.kept hkc; have d4 := ownx.cell (i := j) (by rw [HUL.out]; omega); have d5 := ownx.frozen j))
      all_goals
        go_wp2_with (fail)
        go_roundw
        case rel =>
          refine ⟨j + 1, us.set j y, by omega, by go_num, ?_, ?_, hG'⟩
          · first | exact ownx.set _ _ | exact (ownx.set _ _).drew | exact (ownx.drewN _).set _ _ | exact (ownx.set _ _).drewN _
          · first | exact Below.setCell (hkw.tr hkc) (p := ⟨w.heap.size + 1, j, none⟩) (Nat.le_of_eq HZ1.out) _ | exact (Below.setCell (hkw.tr hkc) (p := ⟨w.heap.size + 1, j, none⟩) (Nat.le_of_eq HZ1.out) _).drew
        case measure => simp [intOf]; omega
    · have hge : (f.length : Int) ≤ (j : Int) := by omega
      have hz0 : us.getD j 0 = 0 := hG.out.zer j (Nat.le_refl _)
      have hse : us.set j 0 = us := by
        refine List.ext_getElem (by simp) (fun i j1 j2 => ?_)
        by_cases e : i = j
        · subst e
          rw [List.getD_eq_getElem?_getD, List.getElem?_eq_getElem j2, Option.getD_some] at hz0
          simp [hz0]
        · rw [List.getElem_set_ne (fun e' => e e'.symm)]
      have hG' := hid (gen_ref hG.out hlt H1.out H2.out (by omega))
      have own0 : Own wr (w.heap.size + 1) (.slice (some ⟨w.heap.size + 1, 0, none⟩) n n) (us.set j 0) := by rw [hse]; exact hown
      obtain ⟨wL, hwL⟩ : ∃ x, x = wr := ⟨_, rfl⟩
      subst hwL
      clear hz0 hse
      go_wp2_with (fail)
      go_loopw [11] (fun vi wr => ∃ k : Nat, k ≤ f.length ∧ vi = .int .i64 ((k : Int) + 1) ∧ Own wr (w.heap.size + 1) (.slice (some ⟨w.heap.size + 1, 0, none⟩) n n) (us.set j (sbS G c us j k)) ∧ Kept w1 wr) (fun vi _ => f.length + 1 - (intOf vi).toNat)
      case atStart => exact ⟨0, by omega, rfl, own0, hkw⟩
      case round =>
        obtain ⟨k, hk, rfl, hown2, hkr⟩ := hrel
        by_cases hkl : k < f.length
        case neg =>
          obtain rfl : k = f.length := by omega
          have hkf : (f.length : Int) < (f.length : Int) + 1 := by omega
          go_wp2_with (fail)
          go_roundw
          case rel => exact ⟨j + 1, _, by omega, by go_num, hown2, hkr, hG'⟩
          case measure => simp [intOf]; omega
        obtain ⟨i, hi⟩ : ∃ i, j = k + 1 + i := ⟨j - (k + 1), by omega⟩
        obtain ⟨x, hx⟩ : ∃ x, x = inn G.q (c.getD (k + 1) 0) := ⟨_, rfl⟩
        obtain ⟨z, hz⟩ : ∃ z, z = us.getD i 0 := ⟨_, rfl⟩
        obtain ⟨u, hu⟩ : ∃ u, u = sbS G c us j k := ⟨_, rfl⟩
        rw [← hu] at hown2
        have HX : Hid (inn G.q (c.getD (k + 1) 0) = x) := hid hx.symm
        have HST : Hid (sbS G c us j (k + 1) = addG G u (negG G (mulG G x z))) := hid (by rw [sbS, hx, hz, hu, show j - (k + 1) = i by omega])
        have HSS : Hid ((us.set j u).set j (addG G u (negG G (mulG G x z))) = us.set j (sbS G c us j (k + 1))) := hid (by rw [List.set_set, HST.out])
        have HL2 : Hid ((us.set j u).length = n) := hid (by rw [List.length_set, HUL.out])
        have HCJ : Hid ((us.set j u).getD j 0 = u) := hid (ldset_eq _ (by rw [HUL.out]; omega))
        have HCI : Hid ((us.set j u).getD i 0 = z) := hid (by rw [ldset_ne _ (by omega), hz])
        obtain ⟨U, hU⟩ : ∃ U, U = us.set j u := ⟨_, rfl⟩
        rw [← hU] at hown2 HSS HL2 HCJ HCI
        have hbw := hbx.kept hkr
        have e0 := hbw.h0
        have e1 := hbw.h1
        have e2 := hbw.h2
        have smw := smv.kept hkr
        have scw := svc.kept hkr
        have hkc := Kept.rfl' wr
        have d4 := hown2.cell (i := j) (by rw [HL2.out]; omega)
        rw [HCJ.out] at d4
        have d5 := hown2.frozen j
        have d6 := hown2.cell (i := i) (by rw [HL2.out]; omega)
        rw [HCI.out] at d6
        have hkf : (k : Int) + 1 ≤ (f.length : Int) := by omega
        have k0 : (0 : Int) ≤ (k : Int) + 1 := by omega
        have k1 : ((k : Int) + 1) = ((k + 1 : Nat) : Int) := by omega
        have i0 : (0 : Int) ≤ (i : Int) := by omega
        have i1 : (i : Int) < (n : Int) := by omega
        have i2 : IntKind.i64.wrap ((j : Int) - ((k : Int) + 1)) = (j : Int) - ((k : Int) + 1) := IntWalk.i64_in _ (by omega)
        have i4 : (0 : Int) ≤ (j : Int) - ((k : Int) + 1) := by omega
        have i5 : (j : Int) - ((k : Int) + 1) < (n : Int) := by omega
        have i6 : ((j : Int) - ((k : Int) + 1)).toNat = i := by omega
        have hij : j ≠ i := by omega
        have i7 : (k : Int) + 1 ≤ (j : Int) := by omega
        have K1 := hid k1
        clear hx hz hu hi hU hkl k1
        go_wp2_with (fail)
        refine wp_region_noPanic ?_
        refine wp_region_held_drew (S := fun w' => w'.cell? ⟨w.heap.size, 0, none⟩ = some (.int .i64 P) ∧ w'.cell? ⟨w.heap.size, 1, none⟩ = some (.int .i64 M) ∧ w'.cell? ⟨w.heap.size, 2, none⟩ = some vm ∧ w'.cell? ⟨w.heap.size + 1, i, none⟩ = some (.int .i64 z)) (by kernel_rfl) ?_ (fun hHeld => ?_)
        · (first | (simp [go_sem]; done) | (refine ⟨?_, ?_, ?_, ?_⟩ <;> (first | (rw [cell_setNe _ (by omega)]; assumption) | (rw [cell_setNi _ hij]; assumption))) | (simp [*]; done))
        refine wpAnyH_take (i := 0) (oi := ?oz1) (v := ?vz1) ?hiz1 (by kernel_rfl) (by kernel_rfl) (by kernel_rfl) (fun _ _ _ h => h) (Or.inl ⟨?hwz1, ?hyz1⟩) (by assumption) ?restz1
        case hiz1 => (simp only [List.getElem?_toArray, List.getElem?_cons_zero]; rfl)
        case hwz1 => rfl
        case hyz1 => (intro w hSw; (try dsimp only at hSw); go_simp; with_reducible rfl)
        try simp only [Act.put, List.setIfInBounds_toArray, List.set_cons_zero, List.set_cons_succ]
        refine wpAnyH_take (i := 1) (oi := ?oz2) (v := ?vz2) ?hiz2 (by kernel_rfl) (by kernel_rfl) (by kernel_rfl) (fun _ _ _ h => h) (Or.inl ⟨?hwz2, ?hyz2⟩) (by assumption) ?restz2
        case hiz2 => (simp only [List.getElem?_toArray, List.getElem?_cons_succ, List.getElem?_cons_zero]; rfl)
        case hwz2 => rfl
        case hyz2 => (intro w hSw; (try dsimp only at hSw); go_simp; with_reducible rfl)
        try simp only [Act.put, List.setIfInBounds_toArray, List.set_cons_zero, List.set_cons_succ]
        refine wpAnyH_take (i := 2) (oi := ?oz3) (v := ?vz3) ?hiz3 (by kernel_rfl) (by kernel_rfl) (by kernel_rfl) (fun _ _ _ h => h) (Or.inl ⟨?hwz3, ?hyz3⟩) (by assumption) ?restz3
        case hiz3 => (simp only [List.getElem?_toArray, List.getElem?_cons_succ, List.getElem?_cons_zero]; rfl)
        case hwz3 => rfl
        case hyz3 => (intro w hSw; (try dsimp only at hSw); go_simp; with_reducible rfl)
        try simp only [Act.put, List.setIfInBounds_toArray, List.set_cons_zero, List.set_cons_succ]
        refine wpAnyH_take (i := 3) (oi := ?oz4) (v := ?vz4) ?hiz4 (by kernel_rfl) (by kernel_rfl) (by kernel_rfl) (fun _ _ _ h => h) (Or.inl ⟨?hwz4, ?hyz4⟩) (by assumption) ?restz4
        case hiz4 => (simp only [List.getElem?_toArray, List.getElem?_cons_succ, List.getElem?_cons_zero]; rfl)
        case hwz4 => rfl
        case hyz4 => (intro w hSw; (try dsimp only at hSw); go_simp; with_reducible rfl)
        try simp only [Act.put, List.setIfInBounds_toArray, List.set_cons_zero, List.set_cons_succ]
        refine wpAnyH_take (i := 4) (oi := ?oz5) (v := ?vz5) ?hiz5 (by kernel_rfl) (by kernel_rfl) (by kernel_rfl) (fun _ _ _ h => h) (Or.inl ⟨?hwz5, ?hyz5⟩) (by assumption) ?restz5
        case hiz5 => (simp only [List.getElem?_toArray, List.getElem?_cons_succ, List.getElem?_cons_zero]; rfl)
        case hwz5 => rfl
        case hyz5 => (intro w hSw; (try dsimp only at hSw); go_simp; with_reducible rfl)
        try simp only [Act.put, List.setIfInBounds_toArray, List.set_cons_zero, List.set_cons_succ]
        refine wpAnyH_take (i := 5) (oi := ?oz6) (v := ?vz6) ?hiz6 (by kernel_rfl) (by kernel_rfl) (by kernel_rfl) (fun _ _ _ h => h) (Or.inl ⟨?hwz6, ?hyz6⟩) (by assumption) ?restz6
        case hiz6 => (simp only [List.getElem?_toArray, List.getElem?_cons_succ, List.getElem?_cons_zero]; rfl)
        case hwz6 => rfl
        case hyz6 => (intro w hSw; (try dsimp only at hSw); go_simp; with_reducible rfl)
        try simp only [Act.put, List.setIfInBounds_toArray, List.set_cons_zero, List.set_cons_succ]
        refine wpAnyH_take (i := 7) (oi := ?oz7) (v := ?vz7) ?hiz7 (by kernel_rfl) (by kernel_rfl) (by kernel_rfl) (fun _ _ _ h => h) (Or.inl ⟨?hwz7, ?hyz7⟩) (by assumption) ?restz7
        case hiz7 => (simp only [List.getElem?_toArray, List.getElem?_cons_succ, List.getElem?_cons_zero]; rfl)
        case hwz7 => rfl
        case hyz7 => (intro w hSw; (try dsimp only at hSw); go_simp; with_reducible rfl)
        try simp only [Act.put, List.setIfInBounds_toArray, List.set_cons_zero, List.set_cons_succ]
        refine wpAnyH_take (i := 8) (oi := ?oz8) (v := ?vz8) ?hiz8 (by kernel_rfl) (by kernel_rfl) (by kernel_rfl) (fun _ _ _ h => h) (Or.inl ⟨?hwz8, ?hyz8⟩) (by assumption) ?restz8
        case hiz8 => (simp only [List.getElem?_toArray, List.getElem?_cons_succ, List.getElem?_cons_zero]; rfl)
        case hwz8 => rfl
        case hyz8 => (intro w hSw; (try dsimp only at hSw); go_simp; with_reducible rfl)
        try simp only [Act.put, List.setIfInBounds_toArray, List.set_cons_zero, List.set_cons_succ]
        refine wpAnyH_take (i := 9) (oi := ?oz9) (v := ?vz9) ?hiz9 (by kernel_rfl) (by kernel_rfl) (by kernel_rfl) (fun _ _ _ h => h) (Or.inl ⟨?hwz9, ?hyz9⟩) (by assumption) ?restz9
        case hiz9 => (simp only [List.getElem?_toArray, List.getElem?_cons_succ, List.getElem?_cons_zero]; rfl)
        case hwz9 => rfl
        case hyz9 => (intro w hSw; (try dsimp only at hSw); go_simp; with_reducible rfl)
        try simp only [Act.put, List.setIfInBounds_toArray, List.set_cons_zero, List.set_cons_succ]
        refine wpAnyH_take (i := 10) (oi := ?oz10) (v := ?vz10) ?hiz10 (by kernel_rfl) (by kernel_rfl) (by kernel_rfl) (fun _ _ _ h => h) (Or.inl ⟨?hwz10, ?hyz10⟩) (by assumption) ?restz10
        case hiz10 => (simp only [List.getElem?_toArray, List.getElem?_cons_succ, List.getElem?_cons_zero]; rfl)
        case hwz10 => rfl
        case hyz10 => (intro w hSw; (try dsimp only at hSw); go_simp; with_reducible rfl)
        try simp only [Act.put, List.setIfInBounds_toArray, List.set_cons_zero, List.set_cons_succ]
        refine wpAnyH_take (i := 12) (oi := ?oz11) (v := ?vz11) ?hiz11 (by kernel_rfl) (by kernel_rfl) (by kernel_rfl) (fun _ _ _ h => h) (Or.inl ⟨?hwz11, ?hyz11⟩) (by assumption) ?restz11
        case hiz11 => (simp only [List.getElem?_toArray, List.getElem?_cons_succ, List.getElem?_cons_zero]; rfl)
        case hwz11 => rfl
        case hyz11 => (intro w hSw; (try dsimp only at hSw); go_simp; with_reducible rfl)
        try simp only [Act.put, List.setIfInBounds_toArray, List.set_cons_zero, List.set_cons_succ]
        refine wpAnyH_take (i := 13) (oi := ?oz12) (v := ?vz12) ?hiz12 (by kernel_rfl) (by kernel_rfl) (by kernel_rfl) (fun _ _ _ h => h) (Or.inl ⟨?hwz12, ?hyz12⟩) (by assumption) ?restz12
        case hiz12 => (simp only [List.getElem?_toArray, List.getElem?_cons_succ, List.getElem?_cons_zero]; rfl)
        case hwz12 => rfl
        case hyz12 => (intro w hSw; (try dsimp only at hSw); go_simp; with_reducible rfl)
        try simp only [Act.put, List.setIfInBounds_toArray, List.set_cons_zero, List.set_cons_succ]
        refine wpAnyH_take (i := 14) (oi := ?oz13) (v := ?vz13) ?hiz13 (by kernel_rfl) (by kernel_rfl) (by kernel_rfl) (fun _ _ _ h => h) (Or.inl ⟨?hwz13, ?hyz13⟩) (by assumption) ?restz13
        case hiz13 => (simp only [List.getElem?_toArray, List.getElem?_cons_succ, List.getElem?_cons_zero]; rfl)
        case hwz13 => rfl
        case hyz13 => (intro w hSw; (try dsimp only at hSw); go_simp; with_reducible rfl)
        try simp only [Act.put, List.setIfInBounds_toArray, List.set_cons_zero, List.set_cons_succ]
        refine wpAnyH_take (i := 15) (oi := ?oz14) (v := ?vz14) ?hiz14 (by kernel_rfl) (by kernel_rfl) (by kernel_rfl) (fun _ _ _ h => h) (Or.inl ⟨?hwz14, ?hyz14⟩) (by assumption) ?restz14
        case hiz14 => (simp only [List.getElem?_toArray, List.getElem?_cons_succ, List.getElem?_cons_zero]; rfl)
        case hwz14 => rfl
        case hyz14 => (intro w hSw; (try dsimp only at hSw); go_simp; with_reducible rfl)
        try simp only [Act.put, List.setIfInBounds_toArray, List.set_cons_zero, List.set_cons_succ]
        refine wpAnyH_take (i := 16) (oi := ?oz15) (v := ?vz15) ?hiz15 (by kernel_rfl) (by kernel_rfl) (by kernel_rfl) (fun _ _ _ h => h) (Or.inl ⟨?hwz15, ?hyz15⟩) (by assumption) ?restz15
        case hiz15 => (simp only [List.getElem?_toArray, List.getElem?_cons_succ, List.getElem?_cons_zero]; rfl)
        case hwz15 => rfl
        case hyz15 => (intro w hSw; (try dsimp only at hSw); go_simp; with_reducible rfl)
        try simp only [Act.put, List.setIfInBounds_toArray, List.set_cons_zero, List.set_cons_succ]
        refine wpAnyH_take (i := 17) (oi := ?oz16) (v := ?vz16) ?hiz16 (by kernel_rfl) (by kernel_rfl) (by kernel_rfl) (fun _ _ _ h => h) (Or.inl ⟨?hwz16, ?hyz16⟩) (by assumption) ?restz16
        case hiz16 => (simp only [List.getElem?_toArray, List.getElem?_cons_succ, List.getElem?_cons_zero]; rfl)
        case hwz16 => rfl
        case hyz16 => (intro w hSw; (try dsimp only at hSw); go_simp; with_reducible rfl)
        try simp only [Act.put, List.setIfInBounds_toArray, List.set_cons_zero, List.set_cons_succ]
        refine wpAnyH_ready (rs := [6, 11]) (by kernel_rfl) (by simp) ?_
        refine AllReadyH.cons (o := ?oAt17) ?hAt17 (fun K hK => ?bAt17) (AllReadyH.cons (o := ?oBt17) ?hBt17 (fun K hK => ?bBt17) AllReadyH.nil)
        case hAt17 => (simp only [List.getElem?_toArray, List.getElem?_cons_succ, List.getElem?_cons_zero]; rfl)
        case hBt17 => (simp only [List.getElem?_toArray, List.getElem?_cons_succ, List.getElem?_cons_zero]; rfl)
        case bAt17 =>
          go_simp
          refine hK.out _ _ ?_ (fun hHeld => ?_)
          · first | assumption | (first | (simp [go_sem]; done) | (refine ⟨?_, ?_, ?_, ?_⟩ <;> (first | (rw [cell_setNe _ (by omega)]; assumption) | (rw [cell_setNi _ hij]; assumption))) | (simp [*]; done))
          clear hK K
          try simp only [Act.put, List.setIfInBounds_toArray, List.set_cons_zero, List.set_cons_succ]
          refine wpAnyH_ready (rs := [11]) (by kernel_rfl) (by simp) ?_
          refine AllReadyH.cons (o := ?oy18) ?hy18 (fun K hK => ?by18) AllReadyH.nil
          case hy18 => (simp only [List.getElem?_toArray, List.getElem?_cons_succ, List.getElem?_cons_zero]; rfl)
          go_simp
          go_at_call 22; (with_reducible refine (rAt_n G t P M mod vm _ c (k + 1) _ K1.out _ ho (scw.kept (by first | exact hkc | exact hkc.tr (kept_drew _) | exact hkc.tr (kept_drewN _ _))) (by omega)).mono ?_); rintro e wx ⟨rfl, kx⟩; rw [HX.out]; have hkn := Kept.tr (b := _) (by first | exact hkc | exact hkc.tr (kept_drew _) | exact hkc.tr (kept_drewN _ _)) kx; clear hkc kx; have hkc := hkn; clear hkn; have bxx := hbw.kept hkc; have d0 := bxx.h0; have d1 := bxx.h1; have d2 := bxx.h2; have ownx := hown2.kept hkc; have d4 := ownx.cell (i := j) (by rw [HL2.out]; omega); rw [HCJ.out] at d4; have d5 := ownx.frozen j; have d6 := ownx.cell (i := i) (by rw [HL2.out]; omega); rw [HCI.out] at d6
          try go_wp2_with (fail)
          refine hK.out _ _ ?_ (fun hHeld => ?_)
          · first | assumption | (first | (simp [go_sem]; done) | (refine ⟨?_, ?_, ?_, ?_⟩ <;> (first | (rw [cell_setNe _ (by omega)]; assumption) | (rw [cell_setNi _ hij]; assumption))) | (simp [*]; done))
          clear hK K
          try simp only [Act.put, List.setIfInBounds_toArray, List.set_cons_zero, List.set_cons_succ]
          refine wpAnyH_ready (rs := [18]) (by kernel_rfl) (by simp) ?_
          refine AllReadyH.cons (o := ?oy19) ?hy19 (fun K hK => ?by19) AllReadyH.nil
          case hy19 => (simp only [List.getElem?_toArray, List.getElem?_cons_succ, List.getElem?_cons_zero]; rfl)
          go_simp
          go_at_call 24; (with_reducible refine (rMul_field G t P M mod vm x z _ ho.out (smw.kept (by first | exact hkc | exact hkc.tr (kept_drew _) | exact hkc.tr (kept_drewN _ _)))).mono ?_); rintro e wx ⟨rfl, kx⟩; have hkn := Kept.tr (b := _) (by first | exact hkc | exact hkc.tr (kept_drew _) | exact hkc.tr (kept_drewN _ _)) kx; clear hkc kx; have hkc := hkn; clear hkn; have bxx := hbw.kept hkc; have d0 := bxx.h0; have d1 := bxx.h1; have d2 := bxx.h2; have ownx := hown2.kept hkc; have d4 := ownx.cell (i := j) (by rw [HL2.out]; omega); rw [HCJ.out] at d4; have d5 := ownx.frozen j; have d6 := ownx.cell (i := i) (by rw [HL2.out]; omega); rw [HCI.out] at d6
          try go_wp2_with (fail)
          refine hK.out _ _ ?_ (fun hHeld => ?_)
          · first | assumption | (first | (simp [go_sem]; done) | (refine ⟨?_, ?_, ?_, ?_⟩ <;> (first | (rw [cell_setNe _ (by omega)]; assumption) | (rw [cell_setNi _ hij]; assumption))) | (simp [*]; done))
          clear hK K
          try simp only [Act.put, List.setIfInBounds_toArray, List.set_cons_zero, List.set_cons_succ]
          refine wpAnyH_ready (rs := [19]) (by kernel_rfl) (by simp) ?_
          refine AllReadyH.cons (o := ?oy20) ?hy20 (fun K hK => ?by20) AllReadyH.nil
          case hy20 => (simp only [List.getElem?_toArray, List.getElem?_cons_succ, List.getElem?_cons_zero]; rfl)
          go_simp
          go_at_call 48; (with_reducible refine (rSub_field G t P M mod vm u (mulG G x z) _ ho.out).mono ?_); rintro e wx ⟨rfl, kx⟩; have hkn := Kept.tr (b := _) (by first | exact hkc | exact hkc.tr (kept_drew _) | exact hkc.tr (kept_drewN _ _)) kx; clear hkc kx; have hkc := hkn; clear hkn; have bxx := hbw.kept hkc; have d0 := bxx.h0; have d1 := bxx.h1; have d2 := bxx.h2; have ownx := hown2.kept hkc; have d4 := ownx.cell (i := j) (by rw [HL2.out]; omega); rw [HCJ.out] at d4; have d5 := ownx.frozen j; have d6 := ownx.cell (i := i) (by rw [HL2.out]; omega); rw [HCI.out] at d6
          try go_wp2_with (fail)
          refine hK.out _ _ ?_ (fun hHeld => ?_)
          · first | assumption | (first | (simp [go_sem]; done) | (refine ⟨?_, ?_, ?_, ?_⟩ <;> (first | (rw [cell_setNe _ (by omega)]; assumption) | (rw [cell_setNi _ hij]; assumption))) | (simp [*]; done))
          clear hK K
          try simp only [Act.put, List.setIfInBounds_toArray, List.set_cons_zero, List.set_cons_succ]
          refine wpAnyH_take (i := 20) (oi := ?oz21) (v := ?vz21) ?hiz21 (by kernel_rfl) (by kernel_rfl) (by kernel_rfl) (fun _ _ _ h => h) (Or.inl ⟨?hwz21, ?hyz21⟩) (by assumption) ?restz21
          case hiz21 => (simp only [List.getElem?_toArray, List.getElem?_cons_succ, List.getElem?_cons_zero]; rfl)
          case hwz21 => rfl
          case hyz21 => (intro w hSw; (try dsimp only at hSw); go_simp; with_reducible rfl)
          try simp only [Act.put, List.setIfInBounds_toArray, List.set_cons_zero, List.set_cons_succ]
          refine wpAnyH_ready (rs := [21]) (by kernel_rfl) (by simp) ?_
          refine AllReadyH.cons (o := ?oy22) ?hy22 (fun K hK => ?by22) AllReadyH.nil
          case hy22 => (simp only [List.getElem?_toArray, List.getElem?_cons_succ, List.getElem?_cons_zero]; rfl)
          go_simp
          refine hK.out _ _ ?_ (fun hHeld => ?_)
          · first | assumption | (first | (simp [go_sem]; done) | (refine ⟨?_, ?_, ?_, ?_⟩ <;> (first | (rw [cell_setNe _ (by omega)]; assumption) | (rw [cell_setNi _ hij]; assumption))) | (simp [*]; done))
          clear hK K
          try simp only [Act.put, List.setIfInBounds_toArray, List.set_cons_zero, List.set_cons_succ]
          refine wpAnyH_done (by kernel_rfl) ?_ _
          refine NoPanic.normal ?_
          go_wp2_with (fail)
          go_roundw
          case rel =>
            refine ⟨k + 1, by omega, by go_num, ?_, ?_⟩
            · rw [← HSS.out]
              first | exact ownx.set _ _ | exact (ownx.set _ _).drew | exact (ownx.drewN _).set _ _ | exact (ownx.set _ _).drewN _
            · first | exact Below.setCell (hkr.tr hkc) (p := ⟨w.heap.size + 1, j, none⟩) (Nat.le_of_eq HZ1.out) _ | exact (Below.setCell (hkr.tr hkc) (p := ⟨w.heap.size + 1, j, none⟩) (Nat.le_of_eq HZ1.out) _).drew
          case measure => simp [intOf]; omega
        case bBt17 =>
          go_simp
          go_at_call 22; (with_reducible refine (rAt_n G t P M mod vm _ c (k + 1) _ K1.out _ ho (scw.kept (by first | exact hkc | exact hkc.tr (kept_drew _) | exact hkc.tr (kept_drewN _ _))) (by omega)).mono ?_); rintro e wx ⟨rfl, kx⟩; rw [HX.out]; have hkn := Kept.tr (b := _) (by first | exact hkc | exact hkc.tr (kept_drew _) | exact hkc.tr (kept_drewN _ _)) kx; clear hkc kx; have hkc := hkn; clear hkn; have bxx := hbw.kept hkc; have d0 := bxx.h0; have d1 := bxx.h1; have d2 := bxx.h2; have ownx := hown2.kept hkc; have d4 := ownx.cell (i := j) (by rw [HL2.out]; omega); rw [HCJ.out] at d4; have d5 := ownx.frozen j; have d6 := ownx.cell (i := i) (by rw [HL2.out]; omega); rw [HCI.out] at d6
          try go_wp2_with (fail)
          refine hK.out _ _ ?_ (fun hHeld => ?_)
          · first | assumption | (first | (simp [go_sem]; done) | (refine ⟨?_, ?_, ?_, ?_⟩ <;> (first | (rw [cell_setNe _ (by omega)]; assumption) | (rw [cell_setNi _ hij]; assumption))) | (simp [*]; done))
          clear hK K
          try simp only [Act.put, List.setIfInBounds_toArray, List.set_cons_zero, List.set_cons_succ]
          refine wpAnyH_ready (rs := [6, 18]) (by kernel_rfl) (by simp) ?_
          refine AllReadyH.cons (o := ?oAt23) ?hAt23 (fun K hK => ?bAt23) (AllReadyH.cons (o := ?oBt23) ?hBt23 (fun K hK => ?bBt23) AllReadyH.nil)
          case hAt23 => (simp only [List.getElem?_toArray, List.getElem?_cons_succ, List.getElem?_cons_zero]; rfl)
          case hBt23 => (simp only [List.getElem?_toArray, List.getElem?_cons_succ, List.getElem?_cons_zero]; rfl)
          case bAt23 =>
            go_simp
            refine hK.out _ _ ?_ (fun hHeld => ?_)
            · first | assumption | (first | (simp [go_sem]; done) | (refine ⟨?_, ?_, ?_, ?_⟩ <;> (first | (rw [cell_setNe _ (by omega)]; assumption) | (rw [cell_setNi _ hij]; assumption))) | (simp [*]; done))
            clear hK K
            try simp only [Act.put, List.setIfInBounds_toArray, List.set_cons_zero, List.set_cons_succ]
            refine wpAnyH_ready (rs := [18]) (by kernel_rfl) (by simp) ?_
            refine AllReadyH.cons (o := ?oy24) ?hy24 (fun K hK => ?by24) AllReadyH.nil
            case hy24 => (simp only [List.getElem?_toArray, List.getElem?_cons_succ, List.getElem?_cons_zero]; rfl)
            go_simp
            go_at_call 24; (with_reducible refine (rMul_field G t P M mod vm x z _ ho.out (smw.kept (by first | exact hkc | exact hkc.tr (kept_drew _) | exact hkc.tr (kept_drewN _ _)))).mono ?_); rintro e wx ⟨rfl, kx⟩; have hkn := Kept.tr (b := _) (by first | exact hkc | exact hkc.tr (kept_drew _) | exact hkc.tr (kept_drewN _ _)) kx; clear hkc kx; have hkc := hkn; clear hkn; have bxx := hbw.kept hkc; have d0 := bxx.h0; have d1 := bxx.h1; have d2 := bxx.h2; have ownx := hown2.kept hkc; have d4 := ownx.cell (i := j) (by rw [HL2.out]; omega); rw [HCJ.out] at d4; have d5 := ownx.frozen j; have d6 := ownx.cell (i := i) (by rw [HL2.out]; omega); rw [HCI.out] at d6
            try go_wp2_with (fail)
            refine hK.out _ _ ?_ (fun hHeld => ?_)
            · first | assumption | (first | (simp [go_sem]; done) | (refine ⟨?_, ?_, ?_, ?_⟩ <;> (first | (rw [cell_setNe _ (by omega)]; assumption) | (rw [cell_setNi _ hij]; assumption))) | (simp [*]; done))
            clear hK K
            try simp only [Act.put, List.setIfInBounds_toArray, List.set_cons_zero, List.set_cons_succ]
            refine wpAnyH_ready (rs := [19]) (by kernel_rfl) (by simp) ?_
            refine AllReadyH.cons (o := ?oy25) ?hy25 (fun K hK => ?by25) AllReadyH.nil
            case hy25 => (simp only [List.getElem?_toArray, List.getElem?_cons_succ, List.getElem?_cons_zero]; rfl)
            go_simp
            go_at_call 48; (with_reducible refine (rSub_field G t P M mod vm u (mulG G x z) _ ho.out).mono ?_); rintro e wx ⟨rfl, kx⟩; have hkn := Kept.tr (b := _) (by first | exact hkc | exact hkc.tr (kept_drew _) | exact hkc.tr (kept_drewN _ _)) kx; clear hkc kx; have hkc := hkn; clear hkn; have bxx := hbw.kept hkc; have d0 := bxx.h0; have d1 := bxx.h1; have d2 := bxx.h2; have ownx := hown2.kept hkc; have d4 := ownx.cell (i := j) (by rw [HL2.out]; omega); rw [HCJ.out] at d4; have d5 := ownx.frozen j; have d6 := ownx.cell (i := i) (by rw [HL2.out]; omega); rw [HCI.out] at d6
            try go_wp2_with (fail)
            refine hK.out _ _ ?_ (fun hHeld => ?_)
            · first | assumption | (first | (simp [go_sem]; done) | (refine ⟨?_, ?_, ?_, ?_⟩ <;> (first | (rw [cell_setNe _ (by omega)]; assumption) | (rw [cell_setNi _ hij]; assumption))) | (simp [*]; done))
            clear hK K
            try simp only [Act.put, List.setIfInBounds_toArray, List.set_cons_zero, List.set_cons_succ]
            refine wpAnyH_take (i := 20) (oi := ?oz26) (v := ?vz26) ?hiz26 (by kernel_rfl) (by kernel_rfl) (by kernel_rfl) (fun _ _ _ h => h) (Or.inl ⟨?hwz26, ?hyz26⟩) (by assumption) ?restz26
            case hiz26 => (simp only [List.getElem?_toArray, List.getElem?_cons_succ, List.getElem?_cons_zero]; rfl)
            case hwz26 => rfl
            case hyz26 => (intro w hSw; (try dsimp only at hSw); go_simp; with_reducible rfl)
            try simp only [Act.put, List.setIfInBounds_toArray, List.set_cons_zero, List.set_cons_succ]
            refine wpAnyH_ready (rs := [21]) (by kernel_rfl) (by simp) ?_
            refine AllReadyH.cons (o := ?oy27) ?hy27 (fun K hK => ?by27) AllReadyH.nil
            case hy27 => (simp only [List.getElem?_toArray, List.getElem?_cons_succ, List.getElem?_cons_zero]; rfl)
            go_simp
            refine hK.out _ _ ?_ (fun hHeld => ?_)
            · first | assumption | (first | (simp [go_sem]; done) | (refine ⟨?_, ?_, ?_, ?_⟩ <;> (first | (rw [cell_setNe _ (by omega)]; assumption) | (rw [cell_setNi _ hij]; assumption))) | (simp [*]; done))
            clear hK K
            try simp only [Act.put, List.setIfInBounds_toArray, List.set_cons_zero, List.set_cons_succ]
            refine wpAnyH_done (by kernel_rfl) ?_ _
            refine NoPanic.normal ?_
            go_wp2_with (fail)
            go_roundw
            case rel =>
              refine ⟨k + 1, by omega, by go_num, ?_, ?_⟩
              · rw [← HSS.out]
                first | exact ownx.set _ _ | exact (ownx.set _ _).drew | exact (ownx.drewN _).set _ _ | exact (ownx.set _ _).drewN _
              · first | exact Below.setCell (hkr.tr hkc) (p := ⟨w.heap.size + 1, j, none⟩) (Nat.le_of_eq HZ1.out) _ | exact (Below.setCell (hkr.tr hkc) (p := ⟨w.heap.size + 1, j, none⟩) (Nat.le_of_eq HZ1.out) _).drew
            case measure => simp [intOf]; omega
          case bBt23 =>
            go_simp
            go_at_call 24; (with_reducible refine (rMul_field G t P M mod vm x z _ ho.out (smw.kept (by first | exact hkc | exact hkc.tr (kept_drew _) | exact hkc.tr (kept_drewN _ _)))).mono ?_); rintro e wx ⟨rfl, kx⟩; have hkn := Kept.tr (b := _) (by first | exact hkc | exact hkc.tr (kept_drew _) | exact hkc.tr (kept_drewN _ _)) kx; clear hkc kx; have hkc := hkn; clear hkn; have bxx := hbw.kept hkc; have d0 := bxx.h0; have d1 := bxx.h1; have d2 := bxx.h2; have ownx := hown2.kept hkc; have d4 := ownx.cell (i := j) (by rw [HL2.out]; omega); rw [HCJ.out] at d4; have d5 := ownx.frozen j; have d6 := ownx.cell (i := i) (by rw [HL2.out]; omega); rw [HCI.out] at d6
            try go_wp2_with (fail)
            refine hK.out _ _ ?_ (fun hHeld => ?_)
            · first | assumption | (first | (simp [go_sem]; done) | (refine ⟨?_, ?_, ?_, ?_⟩ <;> (first | (rw [cell_setNe _ (by omega)]; assumption) | (rw [cell_setNi _ hij]; assumption))) | (simp [*]; done))
            clear hK K
            try simp only [Act.put, List.setIfInBounds_toArray, List.set_cons_zero, List.set_cons_succ]
            refine wpAnyH_ready (rs := [6]) (by kernel_rfl) (by simp) ?_
            refine AllReadyH.cons (o := ?oy28) ?hy28 (fun K hK => ?by28) AllReadyH.nil
            case hy28 => (simp only [List.getElem?_toArray, List.getElem?_cons_succ, List.getElem?_cons_zero]; rfl)
            go_simp
            refine hK.out _ _ ?_ (fun hHeld => ?_)
            · first | assumption | (first | (simp [go_sem]; done) | (refine ⟨?_, ?_, ?_, ?_⟩ <;> (first | (rw [cell_setNe _ (by omega)]; assumption) | (rw [cell_setNi _ hij]; assumption))) | (simp [*]; done))
            clear hK K
            try simp only [Act.put, List.setIfInBounds_toArray, List.set_cons_zero, List.set_cons_succ]
            refine wpAnyH_ready (rs := [19]) (by kernel_rfl) (by simp) ?_
            refine AllReadyH.cons (o := ?oy29) ?hy29 (fun K hK => ?by29) AllReadyH.nil
            case hy29 => (simp only [List.getElem?_toArray, List.getElem?_cons_succ, List.getElem?_cons_zero]; rfl)
            go_simp
            go_at_call 48; (with_reducible refine (rSub_field G t P M mod vm u (mulG G x z) _ ho.out).mono ?_); rintro e wx ⟨rfl, kx⟩; have hkn := Kept.tr (b := _) (by first | exact hkc | exact hkc.tr (kept_drew _) | exact hkc.tr (kept_drewN _ _)) kx; clear hkc kx; have hkc := hkn; clear hkn; have bxx := hbw.kept hkc; have d0 := bxx.h0; have d1 := bxx.h1; have d2 := bxx.h2; have ownx := hown2.kept hkc; have d4 := ownx.cell (i := j) (by rw [HL2.out]; omega); rw [HCJ.out] at d4; have d5 := ownx.frozen j; have d6 := ownx.cell (i := i) (by rw [HL2.out]; omega); rw [HCI.out] at d6
            try go_wp2_with (fail)
            refine hK.out _ _ ?_ (fun hHeld => ?_)
            · first | assumption | (first | (simp [go_sem]; done) | (refine ⟨?_, ?_, ?_, ?_⟩ <;> (first | (rw [cell_setNe _ (by omega)]; assumption) | (rw [cell_setNi _ hij]; assumption))) | (simp [*]; done))
            clear hK K
            try simp only [Act.put, List.setIfInBounds_toArray, List.set_cons_zero, List.set_cons_succ]
            refine wpAnyH_take (i := 20) (oi := ?oz30) (v := ?vz30) ?hiz30 (by kernel_rfl) (by kernel_rfl) (by kernel_rfl) (fun _ _ _ h => h) (Or.inl ⟨?hwz30, ?hyz30⟩) (by assumption) ?restz30
            case hiz30 => (simp only [List.getElem?_toArray, List.getElem?_cons_succ, List.getElem?_cons_zero]; rfl)
            case hwz30 => rfl
            case hyz30 => (intro w hSw; (try dsimp only at hSw); go_simp; with_reducible rfl)
            try simp only [Act.put, List.setIfInBounds_toArray, List.set_cons_zero, List.set_cons_succ]
            refine wpAnyH_ready (rs := [21]) (by kernel_rfl) (by simp) ?_
            refine AllReadyH.cons (o := ?oy31) ?hy31 (fun K hK => ?by31) AllReadyH.nil
            case hy31 => (simp only [List.getElem?_toArray, List.getElem?_cons_succ, List.getElem?_cons_zero]; rfl)
            go_simp
            refine hK.out _ _ ?_ (fun hHeld => ?_)
            · first | assumption | (first | (simp [go_sem]; done) | (refine ⟨?_, ?_, ?_, ?_⟩ <;> (first | (rw [cell_setNe _ (by omega)]; assumption) | (rw [cell_setNi _ hij]; assumption))) | (simp [*]; done))
            clear hK K
            try simp only [Act.put, List.setIfInBounds_toArray, List.set_cons_zero, List.set_cons_succ]
            refine wpAnyH_done (by kernel_rfl) ?_ _
            refine NoPanic.normal ?_
            go_wp2_with (fail)
            go_roundw
            case rel =>
              refine ⟨k + 1, by omega, by go_num, ?_, ?_⟩
              · rw [← HSS.out]
                first | exact ownx.set _ _ | exact (ownx.set _ _).drew | exact (ownx.drewN _).set _ _ | exact (ownx.set _ _).drewN _
              · first | exact Below.setCell (hkr.tr hkc) (p := ⟨w.heap.size + 1, j, none⟩) (Nat.le_of_eq HZ1.out) _ | exact (Below.setCell (hkr.tr hkc) (p := ⟨w.heap.size + 1, j, none⟩) (Nat.le_of_eq HZ1.out) _).drew
            case measure => simp [intOf]; omega
end Go.Proofs.Ytmakdclgpeochaa
