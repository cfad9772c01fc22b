/- The walk of Profile of registers: the closure appends to a captured list. Conditions: the field lies in memory with its tables; lengths are bounded. -/
import Derived.Test.YtmakdclgpeochaaHb
import Derived.RangeFuncBox
namespace Go.Proofs.Ytmakdclgpeochaa
open Go.RowKit Cw

/-- append(v, y), which tells where the row lies behind it. -/
theorem wpList_append_in {w : World} {ops : Array Oper} {rest : List Oper} {o : Oper} {a : Act} {Q : Exit → Act → World → Prop} (hgd : o.guard = none) (s x : Operand)
    (ho : o.op = .call { callee := .builtin .append, args := #[s, x], argTypes := #[22, 22] }) (B g n cap : Nat) (xs : List Int) (hs : a.eval s = .slice (some ⟨g, 0, none⟩) n cap) (hown : Own w B (.slice (some ⟨g, 0, none⟩) n cap) xs)
    (ad : Addr) (y : Int) (hx : a.eval x = .slice (some ad) 1 1) (hc : w.cell? ad = some (.int .i64 y)) (hlen : n + 1 ≤ 1000000) (hB : B ≤ w.heap.size)
    (h : ∀ g' cap' w', Own w' B (.slice (some ⟨g', 0, none⟩) (n + 1) cap') (xs ++ [y]) → w.grownBy w' (some g) → (g' = g ∨ w.heap.size ≤ g') → wpList Try.prog ops Q rest (a.put o.dst (.slice (some ⟨g', 0, none⟩) (n + 1) cap')) w') :
    wpList Try.prog ops Q (o :: rest) a w := by
  obtain ⟨i0, hi, hz0, hz1, hz2⟩ := info_parts Try.infoInt
  have hn := hown.len
  have hcell : ∀ j u, ([.int .i64 y] : List Value)[j]? = some u → w.cell? (ad.add j) = some u := fun j u hu => by
    match j with
    | 0 =>
      have e : u = .int .i64 y := by simpa using hu.symm
      rw [e]
      have : ad.add 0 = ad := by cases ad; simp [Addr.add]
      rw [this]; exact hc
    | j + 1 => simp at hu
  by_cases hroom : n + 1 ≤ cap
  · obtain ⟨w', hrun, h1, h2⟩ := run_append_fits (P := Try.prog) w B 22 o.type 3 i0 1 Try.underlying22 hi hz1 g n cap (xs.map (Value.int .i64)) (by rw [hn] at hown ⊢; exact hown) ad 1 1 [.int .i64 y] rfl hcell (by simp [Value.oneCell']) hroom
    refine wpList_plain hgd fun K hK => ?_
    unfold Oper.wp
    simp [execOp, ho, resolve, invoke, builtin, hs, hx, hrun, Result.andThen]
    refine hK _ _ (h g cap w' ?_ h2 (.inl rfl))
    unfold Own
    rw [List.length_append, ← hn]
    simpa using h1
  · obtain ⟨v', w', hrun, h1, h2⟩ := run_append_arg_grows (P := Try.prog) w 22 o.type 3 i0 (.int .i64 0) 1 8 Try.underlying22 hi hz0 hz1 hz2 rfl (by decide) ⟨g, 0, none⟩ n cap (xs.map (Value.int .i64)) (by simp [hn]) (fun j u hu => by
      have hj : j < xs.length := by have := (List.getElem?_eq_some_iff.1 hu).1; simpa using this
      rw [Addr.add_lit, Nat.zero_add, hown.cell hj]
      simp [List.getElem?_eq_getElem hj] at hu
      simp [List.getD, List.getElem?_eq_getElem hj, hu]) ad 1 1 [.int .i64 y] rfl hcell (by omega) (by unfold maxLen; omega) (by omega)
    have hO : Own w' w.heap.size v' (xs ++ [y]) := by unfold Own; rw [List.length_append, ← hn]; simpa using h1
    rcases hO.form with ⟨_, e⟩ | ⟨gm, cm, rfl, h3, h4, _⟩
    · simp at e
    · refine wpList_plain hgd fun K hK => ?_
      unfold Oper.wp
      simp [execOp, ho, resolve, invoke, builtin, hs, hx, hrun, Result.andThen]
      rw [show xs.length + 1 = n + 1 by rw [hn]] 
      have e : (xs ++ [y]).length = n + 1 := by rw [List.length_append, ← hn]; rfl
      rw [e] at hO
      exact hK _ _ (h gm cm w' (hO.mono hB) (grownBy_some h2) (.inr h3))
theorem own_past {W W' : World} {B g Bx : Nat} {v u : Value} {xs : List Int} (ho : Own W B v xs) (hk : ∀ k, k < W.heap.size → k ≠ g → k ≠ Bx → W'.heap[k]? = W.heap[k]?) (hd : v.ownBlock ≠ some g) (hbx : Boxed W Bx 22 u) : Own W' B v xs := by
  have hn := hbx.not_row (by decide) ho
  rcases ho.form with ⟨rfl, rfl⟩ | ⟨gc, cap, rfl, _, h1, _⟩
  · exact own_nil _ _
  · exact ho.of_block (hk gc h1 (fun e => hd (by rw [e]; rfl)) (fun e => hn (by rw [e]; rfl)))
theorem dj_past {W : World} {B g g' : Nat} {v : Value} {xs : List Int} (ho : Own W B v xs) (hd : v.ownBlock ≠ some g) (h : g' = g ∨ W.heap.size ≤ g') : v.ownBlock ≠ some g' := by
  rcases h with rfl | h
  · exact hd
  · rcases ho.form with ⟨rfl, rfl⟩ | ⟨gc, cap, rfl, _, h1, _⟩
    · intro e; cases e
    · intro e
      have : gc = g' := by simpa [Value.ownBlock] using e
      omega
theorem dj_new {W : World} {B g : Nat} {v : Value} {xs : List Int} (ho : Own W B v xs) (h : g < B) : v.ownBlock ≠ some g := by
  rcases ho.form with ⟨rfl, rfl⟩ | ⟨gc, cap, rfl, h0, h1, _⟩
  · intro e; cases e
  · intro e
    have : gc = g := by simpa [Value.ownBlock] using e
    omega
theorem boxed_kept {W W' : World} {B : Nat} {t : TypeId} {v : Value} (h : Boxed W B t v) (k : Kept W W') : Boxed W' B t v := (Below.block k B h.lt).trans h
set_option maxRecDepth 100000 in
set_option maxHeartbeats 2000000 in
theorem profile1_any (l : Int) (W : World) (Bx g n cap A0 : Nat) (lp : List Int) (hv : Boxed W Bx 22 (.slice (some ⟨g, 0, none⟩) n cap)) (hown : Own W A0 (.slice (some ⟨g, 0, none⟩) n cap) lp) (hA : A0 ≤ Bx) (hln : n + 1 ≤ 1000000) :
    Calls Try.prog 38 #[.int .i64 l, .pointer (some ⟨Bx, 0, none⟩)] W fun e W' => e = .returned (.tuple #[]) ∧ ∃ g' cap', Boxed W' Bx 22 (.slice (some ⟨g', 0, none⟩) (n + 1) cap') ∧ Own W' A0 (.slice (some ⟨g', 0, none⟩) (n + 1) cap') (lp ++ [l]) ∧
      Below A0 W W' ∧ (∀ k, k < W.heap.size → k ≠ g → k ≠ Bx → W'.heap[k]? = W.heap[k]?) ∧ (g' = g ∨ W.heap.size ≤ g') := by
  have hne : some Bx ≠ some g := hv.not_row (by decide) hown
  have hc := hv.cell
  have hAW : A0 ≤ W.heap.size := by have := hv.lt; omega
  have hg := hown.lt
  go_enter Try.func38, Try.ntmps38
  go_wp2_with (at_builtin; refine wpList_append_in rfl (.tmp 3) (.tmp 5) rfl A0 g n cap lp rfl (hown.kept (kept_alloc _ _)) ⟨W.heap.size, 0, none⟩ l rfl (cell_new rfl) hln (by simp; omega) ?_; intro g' cap' w7 o7 gr7 hg7; have b7 : Boxed w7 Bx 22 (.slice (some ⟨g, 0, none⟩) n cap) := (hv.alloc _).kept gr7 hne; have hc7 := b7.cell; have hf7 := b7.frozen)
  go_end0
  have hne7 : some Bx ≠ some g' := b7.not_row (by decide) o7
  refine ⟨rfl, g', cap', b7.set _, o7.of_block (Below.heap_setCell _ _ _ _ (fun e => hne7 (by rw [e]))), ?_, fun k hk h1 h2 => ?_, ?_⟩
  · refine Below.setCell (p := ⟨Bx, 0, none⟩) (Below.grown ((Below.refl A0 W).alloc hAW _) gr7 (by simp; omega) (fun j e => by cases e; exact hg.1)) hA _
  · refine (Below.heap_setCell _ _ _ _ h2).trans ((gr7.block k (by simp; omega) (fun e => h1 (by cases e; rfl))).trans ?_)
    exact Below.block (kept_alloc W _) k hk
  · rcases hg7 with h | h
    · exact .inl h
    · exact .inr (by simp at h; omega)
/-- The first n + 1 complexities. -/
def PrfL {G : GFd} (t : Tabs G) (s lp : List Int) (n : Nat) : Prop := lp.length = n + 1 ∧ ∀ i, i ≤ n → lp.getD i 0 = (Pl.cx (t.po s) i : Int)
theorem prfl_start {G : GFd} (t : Tabs G) (s : List Int) : PrfL t s [0] 0 := ⟨rfl, fun i hi => by
  obtain rfl : i = 0 := by omega
  rw [Pl.cx_zero]; rfl⟩
theorem PrfL.step {G : GFd} {t : Tabs G} {s lp : List Int} {n l : Nat} (h : PrfL t s lp n) (hl : l = Pl.cx (t.po s) (n + 1)) : PrfL t s (lp ++ [(l : Int)]) (n + 1) := by
  refine ⟨by rw [List.length_append, h.1]; rfl, fun i hi => ?_⟩
  by_cases e : i ≤ n
  · rw [List.getD, List.getElem?_append_left (by rw [h.1]; omega)]
    exact h.2 i e
  · obtain rfl : i = n + 1 := by omega
    rw [List.getD, List.getElem?_append_right (by rw [h.1]; exact Nat.le_refl _), h.1, Nat.sub_self, hl]
    rfl
set_option maxRecDepth 100000 in
set_option maxHeartbeats 4000000 in
theorem run_p (b : Nat) (G : GFd) (t : Tabs G) (vs : Value) (s : List Int) (w0 w : World) (Bx g0 cap0 : Nat) (hg : IsGF w0 b G) (hs0 : Sl w0 vs s) (hl : s.length ≤ 300) (hk0 : Kept w0 w) (hBx : w0.heap.size ≤ Bx) (hv0 : Boxed w Bx 22 (.slice (some ⟨g0, 0, none⟩) 1 cap0)) (ho0 : Own w w0.heap.size (.slice (some ⟨g0, 0, none⟩) 1 cap0) [0]) :
    Calls Try.prog 34 #[.pointer (some ⟨b, 0, none⟩), vs, .func (.func 38) #[] #[.pointer (some ⟨Bx, 0, none⟩)]] w fun e w' => (∃ v u, e = .returned (.tuple #[v, u])) ∧ Kept w0 w' ∧ ∃ gp cp lp, Boxed w' Bx 22 (.slice (some ⟨gp, 0, none⟩) (s.length + 1) cp) ∧ Own w' w0.heap.size (.slice (some ⟨gp, 0, none⟩) (s.length + 1) cp) lp ∧ PrfL t s lp s.length := by
  have HS := hs0
  have hs := hs0
  obtain ⟨av, capv, rfl, hcv, ⟨hcm, _⟩, hcs⟩ := hs
  have ss0 := HS
  have hsz := hk0.size
  have hPR0 := hid (prfl_start t s)
  unfold maxLen at hcm
  have kA := kept_alloc w (.cells #[.int .i64 1] 3)
  have oA0 := own_one (w := w) (B := w.heap.size) (x := 1) (Nat.le_refl _)
  have hd1 := hid (dj_new oA0 ho0.lt.2)
  have oA := oA0.mono hsz
  have kB := kA.tr (kept_alloc (w.alloc (.cells #[.int .i64 1] 3)) (.cells #[.int .i64 1] 3))
  have oA' := oA.kept (kept_alloc (w.alloc (.cells #[.int .i64 1] 3)) (.cells #[.int .i64 1] 3))
  have sB0 := own_one (w := w.alloc (.cells #[.int .i64 1] 3)) (B := (w.alloc (.cells #[.int .i64 1] 3)).heap.size) (x := 1) (Nat.le_refl _)
  have hd2 := hid (dj_new sB0 (g := g0) (by have := ho0.lt.2; simp; omega))
  have sB := sB0.mono (B' := w0.heap.size) (by simp; omega)
  rw [World.size_alloc] at sB hd2
  have hvB := boxed_kept hv0 kB
  have hoB := ho0.kept kB
  have hB0 : Hid (Pl.BM (t.po s) (t.pl [1]) (t.pl [1]) (t.e 1) 0 1 0) := hid (by rw [t.pl_one, t.e_one]; exact Pl.bm_start _)
  obtain ⟨q1, q2, -⟩ := t.qb
  go_enter Try.func34, Try.ntmps34
  go_wp2_with (fail)
  go_loopw [6, 7, 8, 9, 10, 21] (fun vc vl vo vg vn vi wr => ∃ (j l since : Nat) (og : Int) (lc lo : List Int), j ≤ s.length ∧ vi = .int .i64 j ∧ vl = .int .i64 l ∧ vg = .int .i64 og ∧ vn = .int .i64 since ∧ Own wr w0.heap.size vc lc ∧ Own wr w0.heap.size vo lo ∧ Kept w0 wr ∧ Cano G lc ∧ lo.length ≤ 1000 ∧ Hid (Pl.BM (t.po s) (t.pl lc) (t.pl lo) (t.e og) l since j) ∧ l ≤ j ∧ since ≤ j + 1 ∧ ∃ gp cp lp, Boxed wr Bx 22 (.slice (some ⟨gp, 0, none⟩) (j + 1) cp) ∧ Own wr w0.heap.size (.slice (some ⟨gp, 0, none⟩) (j + 1) cp) lp ∧ Hid (PrfL t s lp j) ∧ Hid (vc.ownBlock ≠ some gp) ∧ Hid (vo.ownBlock ≠ some gp)) (fun _ _ _ _ _ vi _ => s.length - (intOf vi).toNat)
  case atStart => exact ⟨0, 0, 1, 1, [1], [1], by omega, rfl, rfl, rfl, rfl, oA', sB, hk0.tr kB, cano_one t, by simp, hB0, by omega, by omega, g0, cap0, [0], hvB, hoB, hPR0, hd1, hd2⟩
  case round =>
    obtain ⟨j, l, since, og, lc, lo, hj, rfl, rfl, rfl, rfl, oc, so, hkw, cc, hlo, hB, hlj, hsj, gp, cp, lp, hvp, hop, hPR, hdc, hdo⟩ := hrel
    clear oA oA' sB kB kA hB0 hvB hoB hPR0 hd1 hd2 oA0 sB0
    have hcx := hid (Pl.cx_of hB.out.cx)
    have hww := hkw.size
    have sow := so.sl
    have hgw := hg.kept hkw
    have ssw := ss0.kept hkw
    have hlc : lc.length ≤ 301 := by have h1 := hB.out.reg.len; rw [t.can_ln cc] at h1; omega
    by_cases hlt : j < s.length
    case neg =>
      obtain rfl : j = s.length := by omega
      have hge : (s.length : Int) ≤ (s.length : Int) := Int.le_refl _
      clear hlt
      go_wp2_with (fail)
      go_ret2
      exact ⟨⟨_, _, rfl⟩, hkw, gp, cp, lp, hvp, hop, hPR.out⟩
    have scw := oc.sl
    have hji : (j : Int) < (s.length : Int) := by omega
    obtain ⟨y, hy⟩ : ∃ y, y = gpS G lc s j lc.length := ⟨_, rfl⟩
    have HY : Hid (gpS G lc s j lc.length = y) := hid hy.symm
    have hey : t.e y = ((t.pl lc).a * t.po s) j := by rw [hy]; exact e_gap t lc s j
    have GAP := hid hlt
    by_cases h0 : y = 0
    case pos =>
      subst h0
      have hB' : Hid (Pl.BM (t.po s) (t.pl lc) (t.pl lo) (t.e og) l (since + 1) (j + 1)) := hid (Pl.bm_zero hB.out (by rw [← hey, t.e_zero]))
      clear hy hey hlt
      go_wp2_with (first
        | (go_at_call 44; (with_reducible refine (gap_any b G t _ _ lc s j _ hgw scw ssw GAP.out).mono ?_); rintro e w3 ⟨rfl, n3, rfl⟩; rw [HY.out])
        | (go_at_call 38; (with_reducible refine (profile1_any _ _ Bx gp (j + 1) cp w0.heap.size lp (boxed_kept hvp (kept_drewN _ _)) (hop.drewN _) hBx (by omega)).mono ?_); rintro e w9 ⟨rfl, g9, c9, hv9, ho9, hb9, hh9, hg9⟩))
      have hP9 := hid (hPR.out.step (Pl.cx_of hB'.out.cx).symm)
      go_roundw
      case rel => exact ⟨j + 1, l, since + 1, og, lc, lo, by omega, by go_num, rfl, rfl, by go_num, own_past (oc.drewN _) hh9 hdc.out (boxed_kept hvp (kept_drewN _ _)), own_past (so.drewN _) hh9 hdo.out (boxed_kept hvp (kept_drewN _ _)), Below.trans (hkw.drewN _) hb9, cc, hlo, hB', by omega, by omega, g9, c9, _, hv9, ho9, hP9, hid (dj_past (oc.drewN _) hdc.out hg9), hid (dj_past (so.drewN _) hdo.out hg9)⟩
      case measure => simp [intOf]; omega
    have hne : ((t.pl lc).a * t.po s) j ≠ 0 := by
      rw [← hey]
      intro h
      exact h0 (t.e_eq (by rw [hy]; exact gpS_bd t lc s j _) ⟨by omega, by omega⟩ (by rw [h, t.e_zero]))
    have hog : inn G.q og ≠ 0 := fun h => hB.out.hb (t.e_nz.2 h)
    have ty : (y == 0) = false := by simpa using h0
    obtain ⟨qv, hq⟩ : ∃ qv, qv = mulG G y (invG G og) := ⟨_, rfl⟩
    have HQ : Hid (mulG G y (invG G og) = qv) := hid hq.symm
    have hqe : t.e qv = ((t.pl lc).a * t.po s) j * Cw.Fd.inv (t.e og) := by rw [hq, t.e_mul, t.e_invG hog, hey]
    have hbn : Hid (t.pl lc - t.pl (List.replicate since 0 ++ lo.map (mulG G qv)) = Pl.bmn (t.pl lc) (t.pl lo) (((t.pl lc).a * t.po s) j * Cw.Fd.inv (t.e og)) since) := hid (by
      rw [pl_shift, t.pl_map, hqe]; rfl)
    have HNE := hid hne
    have HOG := hid hog
    have HEY := hid hey
    have hbj : Hid (2 * l ≤ j → Pl.BM (t.po s) (Pl.bmn (t.pl lc) (t.pl lo) (((t.pl lc).a * t.po s) j * Cw.Fd.inv (t.e og)) since) (t.pl lc) (t.e y) (j + 1 - l) 1 (j + 1)) := hid (fun h => by rw [hey]; exact Pl.bm_jump hB.out hne h)
    have hbs : Hid (j < 2 * l → Pl.BM (t.po s) (Pl.bmn (t.pl lc) (t.pl lo) (((t.pl lc).a * t.po s) j * Cw.Fd.inv (t.e og)) since) (t.pl lo) (t.e og) l (since + 1) (j + 1)) := hid (fun h => Pl.bm_stay hB.out h)
    clear hy hey hlt h0 hne hog hq hqe
    go_wp2_with (first
      | (go_at_call 44; (with_reducible refine (gap_any b G t _ _ lc s j _ hgw scw ssw GAP.out).mono ?_); rintro e w3 ⟨rfl, n3, rfl⟩; rw [HY.out])
      | (go_at_call 55; (with_reducible refine (div_ok b G y og _ (hgw.drewN _) t HOG.out).mono ?_); rintro e w4 ⟨rfl, n4, rfl⟩; rw [HQ.out]))
    have hmk := run_make_ints since (by omega)
    have hkc := kept_drewN wr (n3 + n4 + 1)
    have kA1 := hkc.tr (kept_alloc (wr.drewN (n3 + n4 + 1)) (.cells (madeCells #[.int .i64 0] since) 3))
    have hZA : Own ((wr.drewN (n3 + n4 + 1)).alloc (.cells (madeCells #[.int .i64 0] since) 3)) wr.heap.size (.slice (some ⟨wr.heap.size, 0, none⟩) since since) (List.replicate since 0) := own_make_ints (w := wr.drewN (n3 + n4 + 1)) (B := wr.heap.size) (by omega) (Nat.le_refl _)
    have hlx : (List.replicate since (0 : Int)).length + lo.length ≤ 1000000 := by rw [List.length_replicate]; omega
    have hlx2 : (List.replicate since (0 : Int) ++ lo.map (mulG G qv)).length ≤ 100000 := by rw [List.length_append, List.length_replicate, List.length_map]; omega
    go_region_held3 (fun _ => True) (exact trivial)
      (first
        | (go_at_call 56; (with_reducible refine (scale_any b G qv _ lo ((wr.drewN (n3 + n4 + 1)).alloc (.cells (madeCells #[.int .i64 0] since) 3)) (hgw.kept kA1) t (sow.kept kA1) (by omega)).mono ?_); rintro e wS ⟨rfl, oS, kS⟩; have hZ := hZA.kept kS; have hkS := kA1.tr kS; rw [World.size_alloc] at oS; have hSA := own_addr oS)
        | (go_at_call 56; (with_reducible refine (scale_any b G qv _ lo (wr.drewN (n3 + n4 + 1)) (hgw.drewN _) t (sow.kept (kept_drewN _ _)) (by omega)).mono ?_); rintro e wS ⟨rfl, oS, kS⟩; have hZ : Own (wS.alloc (.cells (madeCells #[.int .i64 0] since) 3)) wr.heap.size (.slice (some ⟨wS.heap.size, 0, none⟩) since since) (List.replicate since 0) := own_make_ints (w := wS) (B := wr.heap.size) (by omega) (hkc.tr kS).size; have hkS := (hkc.tr kS).tr (kept_alloc wS (.cells (madeCells #[.int .i64 0] since) 3)); have hSA := own_addr (oS.kept (kept_alloc wS (.cells (madeCells #[.int .i64 0] since) 3))))
        | (refine step_append_ints rfl (.tmp 41) (.tmp 45) rfl wr.heap.size _ (List.replicate since 0) rfl hZ _ lo.length lo.length (lo.map (mulG G qv)) rfl (by simp) (fun e => by cases e) (fun _ e => by cases e) hSA hlx hkS.size ?_; intro v5 w5 o5 gr5 _; have hk5 : Kept wr w5 := below_append hkS hkS.size hZ (Nat.le_refl _) gr5; clear gr5))
    all_goals
      have hg5 := hgw.kept hk5
      have sc5 := scw.kept hk5
      have s5 := o5.sl
      clear hmk hZA kA1 hkc
      go_wp2_with (fail)
      refine (psub_p b G t _ _ lc (List.replicate since 0 ++ lo.map (mulG G qv)) _ hg5 sc5 s5 (by omega) hlx2).mono ?_
      rintro e w6 ⟨v6, l6, rfl, o6, k6, c6, p6⟩
      have P6 := hid (p6.trans hbn.out)
      have kN := hkw.tr (hk5.tr k6)
      have O6 := o6.mono (show w0.heap.size ≤ w5.heap.size from Nat.le_trans hww hk5.size)
      have hd6 := hid (dj_new o6 (g := gp) (by have := hop.lt.2; have := hk5.size; omega))
      have k56 := hk5.tr k6
      have hv6 := boxed_kept hvp k56
      have ho6 := hop.kept k56
      have oc6 := oc.kept k56
      have oo6 := so.kept k56
      have w1' : IntKind.i64.wrap (2 * (l : Int)) = 2 * (l : Int) := IntWalk.i64_in _ (by omega)
      clear p6 o6
      by_cases h2 : 2 * l ≤ j
      · have h2i : 2 * (l : Int) ≤ (j : Int) := by omega
        have w3' : IntKind.i64.wrap ((j : Int) + 1 - (l : Int)) = ((j + 1 - l : Nat) : Int) := by rw [IntWalk.i64_in _ (by omega)]; omega
        have w2' : IntKind.i64.wrap ((j : Int) + 1) = (j : Int) + 1 := IntWalk.i64_in _ (by omega)
        have HB := hid (hbj.out h2)
        clear h2
        go_wp2_with (go_at_call 38; (with_reducible refine (profile1_any _ _ Bx gp (j + 1) cp w0.heap.size lp hv6 ho6 hBx (by omega)).mono ?_); rintro e w9 ⟨rfl, g9, c9, hv9, ho9, hb9, hh9, hg9⟩)
        clear w1' w2' w3'
        have hP9 := hid (hPR.out.step (l := j + 1 - l) (Pl.cx_of HB.out.cx).symm)
        go_roundw
        case rel => exact ⟨j + 1, j + 1 - l, 1, y, l6, lc, by omega, by go_num, rfl, rfl, rfl, own_past O6 hh9 hd6.out hv6, own_past oc6 hh9 hdc.out hv6, Below.trans kN hb9, c6, by omega, hid (by rw [P6.out]; exact HB.out), by omega, by omega, g9, c9, _, hv9, ho9, hP9, hid (dj_past O6 hd6.out hg9), hid (dj_past oc6 hdc.out hg9)⟩
        case measure => simp [intOf]; omega
      · have h2i : (j : Int) < 2 * (l : Int) := by omega
        have HB := hid (hbs.out (by omega))
        clear h2
        go_wp2_with (go_at_call 38; (with_reducible refine (profile1_any _ _ Bx gp (j + 1) cp w0.heap.size lp hv6 ho6 hBx (by omega)).mono ?_); rintro e w9 ⟨rfl, g9, c9, hv9, ho9, hb9, hh9, hg9⟩)
        clear w1'
        have hP9 := hid (hPR.out.step (l := l) (Pl.cx_of HB.out.cx).symm)
        go_roundw
        case rel => exact ⟨j + 1, l, since + 1, og, l6, lo, by omega, by go_num, rfl, rfl, by go_num, own_past O6 hh9 hd6.out hv6, own_past oo6 hh9 hdo.out hv6, Below.trans kN hb9, c6, hlo, hid (by rw [P6.out]; exact HB.out), by omega, by omega, g9, c9, _, hv9, ho9, hP9, hid (dj_past O6 hd6.out hg9), hid (dj_past oo6 hdo.out hg9)⟩
        case measure => simp [intOf]; omega
set_option maxRecDepth 100000 in
theorem profile_any (b : Nat) (G : GFd) (t : Tabs G) (vs : Value) (s : List Int) (w : World) (hg : IsGF w b G) (hs : Sl w vs s) (hl : s.length ≤ 300) :
    Calls Try.prog 21 #[.pointer (some ⟨b, 0, none⟩), vs] w fun e w' => ∃ v lp, e = .returned v ∧ Own w' w.heap.size v lp ∧ Kept w w' ∧ PrfL t s lp s.length := by
  have hmf : ∀ (fn : Fn) (first cap : Array Value) (w : World), (Instr.makeFunc fn first cap).run Try.prog w = .ok (.func fn first cap) w := fun _ _ _ _ => rfl
  have kA := kept_alloc w (.cells #[.int .i64 0] 3)
  have oA := own_one (w := w) (B := w.heap.size) (x := 0) (Nat.le_refl _)
  have kB := kept_alloc (w.alloc (.cells #[.int .i64 0] 3)) (.cells #[.slice (some ⟨w.heap.size, 0, none⟩) 1 1] 22)
  have bB := Boxed.new (w.alloc (.cells #[.int .i64 0] 3)) 22 (.slice (some ⟨w.heap.size, 0, none⟩) 1 1)
  rw [World.size_alloc] at bB
  go_enter Try.func21, Try.ntmps21
  go_wp2_with (fail)
  refine (run_p b G t vs s w _ (w.heap.size + 1) w.heap.size 1 hg hs hl (kA.tr kB) (by omega) bB (oA.kept kB)).mono ?_
  rintro e w1 ⟨⟨v, u, rfl⟩, hk, gp, cp, lp, hv, ho, hp⟩
  have hc := hv.cell
  go_wp2_with (fail)
  go_ret
  exact ⟨_, lp, rfl, ho, hk, hp⟩
end Go.Proofs.Ytmakdclgpeochaa
