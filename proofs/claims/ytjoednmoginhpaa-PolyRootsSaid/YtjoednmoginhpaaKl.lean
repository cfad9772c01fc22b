/- The walk of Roots of polynomials: a range over a function whose body collects. Conditions: the field lies in memory with its tables; lengths are bounded. -/
import Derived.Test.YtjoednmoginhpaaKg
import Derived.Test.YtjoednmoginhpaaEa
import Derived.Maps.AppendAt
import Derived.RangeFuncBox
import Derived.RangeFuncWrites
namespace Go.Proofs.Ytjoednmoginhpaa
open Go.RowKit Go.Shelf Cw
attribute [local go_sem] Oper.semAt_some

theorem cell_new' (W : World) (v : Value) (t : TypeId) : (W.alloc (.cells #[v] t)).cell? ⟨W.heap.size, 0, none⟩ = some v ∧ (W.alloc (.cells #[v] t)).frozen? ⟨W.heap.size, 0, none⟩ = false :=
  ⟨(Boxed.new W t v).cell, (Boxed.new W t v).frozen⟩
/-- The roots among the elements that have come. -/
def rtL (G : GFd) (p : List Int) (xs : List Int) : List Int := xs.filter fun x => decide (evL G p x = 0)
theorem rtL_hit (G : GFd) (p pre : List Int) {x : Int} (h : evL G p x = 0) : rtL G p (pre ++ [x]) = rtL G p pre ++ [x] := by simp [rtL, h]
theorem rtL_miss (G : GFd) (p pre : List Int) {x : Int} (h : ¬ evL G p x = 0) : rtL G p (pre ++ [x]) = rtL G p pre := by simp [rtL, h]
theorem Try.infoI : (Try.prog.info? 3).map (fun i => (i.zero, i.size, i.bytes)) = some (some (.int .i64 0), 1, 8) := by kernel_rfl
theorem KeepsOthers.drewN' (W : World) (n : Nat) : KeepsOthers W (W.drewN n) := ⟨Nat.le_refl _, fun _ _ h _ => h⟩

set_option maxRecDepth 100000 in
set_option maxHeartbeats 2000000 in
theorem roots_z (b : Nat) (G : GFd) (t : Tabs G) (v : Value) (p : List Int) (w : World) (hg : IsGF w b G) (hv : Sl w v p) (hl : p.length ≤ 1000000) (hz : t.pl p = 0) :
    Calls Try.prog 57 #[.pointer (some ⟨b, 0, none⟩), v] w fun e w' => e = .returned (.tuple #[.slice none 0 0, .int .i64 7]) ∧ Kept w w' := by
  have HZ := hid hz
  clear hz
  have kA := kept_alloc w (.cells #[.pointer (some ⟨b, 0, none⟩)] 26)
  have bx := (cell_new' w (.pointer (some ⟨b, 0, none⟩)) 26).1
  have blt : w.heap.size < (w.alloc (.cells #[.pointer (some ⟨b, 0, none⟩)] 26)).heap.size := by simp
  refine (callsIn_wide (n := 3)).1 ?_
  refine callsIn_of_wp_marks Try.func57 rfl trivial ?_ rfl
  simp only [Try.ntmps57, List.size_toArray, List.length_cons, List.length_nil, Nat.reduceAdd, Nat.reduceSub, Array.replicate_succ, Array.replicate_zero, List.push_toArray, List.append_toArray, List.nil_append, List.cons_append]
  gi_wp2_with (refine ⟨trivial, ?_⟩; gi_at_call 29; refine (callsIn_wide.2 (canon_p b G t v p _ (hg.kept kA) (hv.kept kA) hl)).mono ?_; rintro e w1 ⟨v1, l1, rfl, o1, k1, c1, p1⟩; obtain rfl : l1 = [] := (t.pl_zero c1).1 (p1.trans HZ.out); obtain ⟨a1, cp1, rfl, h1, h2⟩ := o1.sh)
  exact ⟨_, results_tmp2 rfl _ _ _, rfl, (kA.tr k1).tr (kept_alloc _ _)⟩
set_option maxRecDepth 100000 in
set_option maxHeartbeats 4000000 in
theorem roots_p (b : Nat) (G : GFd) (t : Tabs G) (v : Value) (p : List Int) (w : World) (hg : IsGF w b G) (hv : Sl w v p) (hl : p.length ≤ 1000000) (hz : t.pl p ≠ 0) :
    Calls Try.prog 57 #[.pointer (some ⟨b, 0, none⟩), v] w fun e w' => ∃ v' , e = .returned (.tuple #[v', .int .i64 0]) ∧ Own w' w.heap.size v' (rtL G p (upTo G.q.toNat)) ∧ Kept w w' := by
  have HZ := hid hz
  clear hz
  have kA := kept_alloc w (.cells #[.pointer (some ⟨b, 0, none⟩)] 26)
  have bx := (cell_new' w (.pointer (some ⟨b, 0, none⟩)) 26).1
  have blt : w.heap.size < (w.alloc (.cells #[.pointer (some ⟨b, 0, none⟩)] 26)).heap.size := by simp
  refine (callsIn_wide (n := 3)).1 ?_
  refine callsIn_of_wp_marks Try.func57 rfl trivial ?_ rfl
  simp only [Try.ntmps57, List.size_toArray, List.length_cons, List.length_nil, Nat.reduceAdd, Nat.reduceSub, Array.replicate_succ, Array.replicate_zero, List.push_toArray, List.append_toArray, List.nil_append, List.cons_append]
  gi_wp2_with (first
    | (refine ⟨trivial, ?_⟩; gi_at_call 29; refine (callsIn_wide.2 (canon_p b G t v p _ (hg.kept kA) (hv.kept kA) hl)).mono ?_; rintro e w1 ⟨v1, l1, rfl, o1, k1, c1, p1⟩; have hne : l1 ≠ [] := (fun e => HZ.out (by rw [← p1, e, t.pl_nil])); obtain ⟨g1, cp1, rfl, h1, h2, h3, h4⟩ := o1.sh' hne; have t1 : ((l1.length : Int) == 0) = false := beq0 (List.length_pos_iff.2 hne); have kB := (kept_alloc w1 (.cells #[.slice (some ⟨g1, 0, none⟩) l1.length cp1] 22)).tr (kept_alloc (w1.alloc (.cells #[.slice (some ⟨g1, 0, none⟩) l1.length cp1] 22)) (.cells #[.slice none 0 0] 22)); have gb := (Kept.cell' (k1.tr kB) blt).trans bx)
    | (refine ⟨trivial, ?_⟩; gi_at_call 82; refine (callsIn_wide.2 (elements_any b _)).mono ?_; rintro e w3 ⟨rfl, rfl⟩))
  obtain ⟨q1, q2, -⟩ := t.qb
  obtain ⟨i0, hi, hz0, hz1, hz2⟩ := info_parts Try.infoI
  have n1 := cell_new' w1 (.slice (some ⟨g1, 0, none⟩) l1.length cp1) 22
  have n3 := cell_new' ((w1.alloc (.cells #[.slice (some ⟨g1, 0, none⟩) l1.length cp1] 22)).alloc (.cells #[.slice none 0 0] 22)) (.pointer (some ⟨b, 0, none⟩)) 26
  have bO := Boxed.new (w1.alloc (.cells #[.slice (some ⟨g1, 0, none⟩) l1.length cp1] 22)) 22 (.slice none 0 0)
  have kC := kept_alloc ((w1.alloc (.cells #[.slice (some ⟨g1, 0, none⟩) l1.length cp1] 22)).alloc (.cells #[.slice none 0 0] 22)) (.cells #[.pointer (some ⟨b, 0, none⟩)] 26)
  have bO' := bO.alloc (.cells #[.pointer (some ⟨b, 0, none⟩)] 26)
  have cb := (Kept.cell' ((kept_alloc (w1.alloc (.cells #[.slice (some ⟨g1, 0, none⟩) l1.length cp1] 22)) (.cells #[.slice none 0 0] 22)).tr kC) (b := w1.heap.size) (by simp)).trans n1.1
  have gb' := (Kept.cell' kC (b := w.heap.size) (by have := (kA.tr k1).size; simp; omega)).trans gb
  have kD := kB.tr kC
  have hgW := hg.kept ((kA.tr k1).tr kD)
  have sW := o1.sl.kept kD
  have kW := (kA.tr k1).tr kD
  have hzw : w.heap.size < w1.heap.size := k1.lt blt
  simp only [World.size_alloc] at n3 bO'
  obtain ⟨W0, hW0⟩ : ∃ W0, ((w1.alloc (.cells #[.slice (some ⟨g1, 0, none⟩) l1.length cp1] 22)).alloc (.cells #[.slice none 0 0] 22)).alloc (.cells #[.pointer (some ⟨b, 0, none⟩)] 26) = W0 := ⟨_, rfl⟩
  have hsz : W0.heap.size = w1.heap.size + 1 + 1 + 1 := by rw [← hW0]; simp
  rw [hW0] at n3 bO' cb gb' hgW sW kW kD ⊢
  have hq : G.q.toNat ≤ 256 := by omega
  have HP := hid (fun x => t.evL_congr x p1)
  clear kC bO gb kB n1 hW0 p1
  refine wpIn_rangeFunc_ownF (F := Fence.wide) (n := 3) rfl (by decide) (gf := 94) (lb := #[.pointer (some ⟨w1.heap.size + 1 + 1, 0, none⟩)]) rfl trivial (enters_of Try.func94 (by kernel_rfl) rfl)
    (elements_stops 2 b (w1.heap.size + 1 + 1) G t W0 (by omega) n3.1 hgW) walksK_t walksK_b (Below.refl _ _) (fun _ => rfl)
    (fun pre W => (∃ v, Boxed W (w1.heap.size + 1) 22 v ∧ W.ownsRow (w1.heap.size + 1) 3 1 v (rtL G p pre).length ((rtL G p pre).map (Value.int .i64)) ∧ True) ∧ Below (w1.heap.size + 1) W0 W)
    (fun _ _ _ => False)
    (OwnFrom.and (Own.from (holdsRow_own (w1.heap.size + 1) (w1.heap.size + 1) 22 3 1 (fun pre => (rtL G p pre).length) (fun pre => (rtL G p pre).map (Value.int .i64)) (fun _ _ => True)) _) (ownFrom_below (by omega) (by omega)))
    (fun _ _ _ _ _ hs _ _ => hs)
    ⟨⟨_, bO', World.ownsRow_nil _ _ _ _, trivial⟩, Below.refl _ _⟩
    (fun x => { tmps := #[.pointer (some ⟨b, 0, none⟩), v, .pointer (some ⟨w.heap.size, 0, none⟩), undef, .slice none 0 0, .int .i64 0, .pointer (some ⟨w1.heap.size, 0, none⟩), .pointer (some ⟨w1.heap.size + 1, 0, none⟩), .int .i64 x, .pointer (some ⟨b, 0, none⟩), v, .slice (some ⟨g1, 0, none⟩) l1.length cp1, .slice (some ⟨g1, 0, none⟩) l1.length cp1, .int .i64 l1.length, .bool false, .pointer (some ⟨b, 0, none⟩), .func (.func 94) #[] #[.pointer (some ⟨w1.heap.size + 1 + 1, 0, none⟩)], .int .i64 x, undef, undef, undef, undef, undef, undef, undef, undef, undef, undef], defers := [] }) ?assign ?body ?done ?stop
  case assign =>
    intro l x W K hK
    gi_wp2
    exact hK
  case body =>
    rintro l pre x W ⟨⟨vo, hv, hrow, _⟩, hB⟩ hlt
    have hpl : (rtL G p pre).length ≤ pre.length := List.length_filter_le _ _
    have gx := (hB.cell (p := ⟨w.heap.size, 0, none⟩) (by show w.heap.size < _; omega)).trans gb'
    have cx := (hB.cell (p := ⟨w1.heap.size, 0, none⟩) (by show w1.heap.size < _; omega)).trans cb
    have kx : Kept w1 W := Below.trans kD (hB.mono (by omega))
    have hgx := (hg.kept (kA.tr k1)).kept kx
    have sx := o1.sl.kept kx
    have hn1 : 1 ≤ 3 - 1 - 1 := by decide
    have hc0 := hv.cell
    obtain ⟨y, hy⟩ : ∃ y, y = evL G p x := ⟨_, rfl⟩
    have HY : Hid (evL G l1 x = y) := hid (by rw [HP.out x, hy])
    by_cases h0 : y = 0
    · subst h0
      have hh := rtL_hit G p pre hy.symm
      clear hy
      gi_wp2_with (first
        | (refine ⟨trivial, ?_⟩; gi_at_call 41; refine (CallsIn.inRound l (callsIn_wide.2 (eval_p b G t _ l1 x W hgx sx))).mono ?_; rintro e W2 ⟨rfl, m, rfl⟩; rw [HY.out]; have hvD : Boxed (W.drewN m) (w1.heap.size + 1) 22 vo := hv; have hrowD : (W.drewN m).ownsRow (w1.heap.size + 1) 3 1 vo (rtL G p pre).length ((rtL G p pre).map (Value.int .i64)) := hrow; have hc := hvD.cell; have hBD : Below (w1.heap.size + 1) W0 (W.drewN m) := below_drewN hB m)
        | (gi_at_builtin; refine wpListIn_append_own _ rfl _ _ 22 rfl (w1.heap.size + 1) 3 i0 (.int .i64 0) 1 8 Try.underlying22 hi hz0 hz1 hz2 rfl (by decide) _ _ _ rfl (hrowD.alloc _) ⟨W.heap.size, 0, none⟩ 1 1 [.int .i64 x] rfl rfl (cell_one_new _ _ _) (by simp [Value.oneCell']) (by unfold maxLen; omega) (by omega) (by have := hB.size; simp; omega) ?_; intro v' w7 hown' hgrow _; obtain ⟨g', cap', rfl⟩ := ownsRow_succ hown'; obtain ⟨hv1, hv2, hr2, hk2, hb2⟩ := hvD.appended (by decide) hrowD (by show w1.heap.size + 1 ≤ W.heap.size; have := hB.size; omega) (Nat.le_refl _) hown' hgrow; have hc1 := hv1.cell; have hf1 := hv1.frozen))
      exact ⟨(KeepsOthers.drewN' W m).trans hk2, ((KeepsOthers.drewN' W m).trans hk2).walks, ⟨_, hv2, by rw [hh]; simpa using hr2, trivial⟩, hBD.trans hb2⟩
    · have hh := rtL_miss G p pre (x := x) (by rw [← hy]; exact h0)
      have ty : (y == 0) = false := by simpa using h0
      clear hy
      gi_wp2_with (refine ⟨trivial, ?_⟩; gi_at_call 41; refine (CallsIn.inRound l (callsIn_wide.2 (eval_p b G t _ l1 x W hgx sx))).mono ?_; rintro e W2 ⟨rfl, m, rfl⟩; rw [HY.out])
      exact ⟨KeepsOthers.drewN' W m, (KeepsOthers.drewN' W m).walks, ⟨vo, hv, by rw [hh]; exact hrow, trivial⟩, below_drewN hB m⟩
  case done =>
    rintro D ys W hD rfl ⟨⟨vo, hv, hrow, _⟩, hB⟩ hK
    have hc := hv.cell
    gi_wp2
    refine ⟨by simp, .inl ⟨_, _, rfl, run_takeDeferred hK, ?_⟩⟩
    refine ⟨_, results_tmp2 rfl _ _ _, vo, rfl, Own.mono (B := w1.heap.size + 1) (ownsRow_putObj hrow _ hK rfl) (by omega), ?_⟩
    exact (Below.trans kW (hB.mono (by omega))).trans (belowK_b (w := w) (Nat.le_refl _) W D _ _ (by omega) hK rfl rfl)
  case stop =>
    rintro D c pre W _ _ h _
    exact h.elim
end Go.Proofs.Ytjoednmoginhpaa
