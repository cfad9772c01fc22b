/- The walk of the law FieldElements. No conditions. -/
import Derived.Test.YtnmidgcmlkofjaaEa
import Derived.Test.YtnmidgcmlkofjaaLc
import Derived.Test.YtnmidgcmlkofjaaRa
import Derived.Test.YtnmidgcmlkofjaaRg
namespace Go.Proofs.Ytnmidgcmlkofjaa
open Go.RowKit Go.Shelf Cw
attribute [local go_sem] Oper.semAt_some

theorem cell_box' {W : World} {B : Nat} {v : Value} {t : TypeId} (h : W.heap[B]? = some (.cells #[v] t (0, 0))) : W.cell? ⟨B, 0, none⟩ = some v ∧ W.frozen? ⟨B, 0, none⟩ = false := by
  constructor <;> simp [World.cell?, World.frozen?, h]
theorem cell_new' (W : World) (v : Value) (t : TypeId) : (W.alloc (.cells #[v] t)).cell? ⟨W.heap.size, 0, none⟩ = some v ∧ (W.alloc (.cells #[v] t)).frozen? ⟨W.heap.size, 0, none⟩ = false :=
  cell_box' (World.alloc_heap_new W _)
theorem run_eql_func_nil {P : Program} (w : World) {t : TypeId} {a b : Array TypeId} {c : Bool} (hu : P.underlying t = some (.func a b c)) (f : Fn) (ca lb : Array Value) :
    (binOp .eql t (.func f ca lb) .nilFunc).run P w = .ok (.bool false) w := by
  have h : ∀ d : Nat, (Op.equalIn (d + 1) t (.func f ca lb) .nilFunc).run P w = .ok false w := fun d => by
    simp [Op.equalIn, run_underlying hu]
  simp only [binOp]
  simp [Op.equal, Op.maxDepth, h 9999]
theorem cell_lt' {W : World} {a : Addr} {v : Value} (h : W.cell? a = some v) : a.block < W.heap.size := by
  obtain ⟨o, ho, _⟩ := cells_of_cell h
  exact (Array.getElem?_eq_some_iff.1 ho).1
theorem upTo_of_pre {pre : List Int} {q : Nat} (h : pre <+: upTo q) : pre = upTo pre.length ∧ pre.length ≤ q := by
  have hl := h.length_le
  rw [upTo_len] at hl
  have h1 := List.prefix_iff_eq_take.1 h
  have h2 := List.prefix_iff_eq_take.1 (upTo_pre hl)
  rw [upTo_len] at h2
  exact ⟨by rw [h2]; exact h1, hl⟩
/-- The boxes of stop and of the result. -/
structure Bx2 (w : World) (n : Nat) (stop : Int) : Prop where
  lt : n + 1 + 1 < w.heap.size
  h1 : w.cell? ⟨n + 1, 0, none⟩ = some (.int .i64 stop)
  h2 : w.cell? ⟨n + 1 + 1, 0, none⟩ = some (.bool false)
  h3 : w.frozen? ⟨n + 1 + 1, 0, none⟩ = false
theorem Bx2.kept {w w' : World} {n : Nat} {stop : Int} (h : Bx2 w n stop) (k : Kept w w') : Bx2 w' n stop :=
  ⟨k.lt h.lt, (Kept.cell' k (by have := h.lt; omega)).trans h.h1, (Kept.cell' k h.lt).trans h.h2, (Kept.frozen' k h.lt).trans h.h3⟩

set_option maxRecDepth 100000 in
set_option maxHeartbeats 2000000 in
theorem fieldElements_law (P M : Int) (vm : Value) (mod : List Int) (stop : Int) (w : World) (hvm : Sl w vm mod) :
    Calls Try.prog 5 #[.agg #[.int .i64 P, .int .i64 M, vm], .int .i64 stop] w fun e w' => e = .returned (.bool true) ∧ Kept w w' := by
  obtain ⟨wA, hwA⟩ : ∃ wA, wA = ((w.alloc (.cells #[.int .i64 P, .int .i64 M, vm] 24)).alloc (.cells #[.int .i64 stop] 3)).alloc (.cells #[.bool false] 4) := ⟨_, rfl⟩
  have hA1 := kept_alloc w (.cells #[.int .i64 P, .int .i64 M, vm] 24)
  have hA2 := kept_alloc (w.alloc (.cells #[.int .i64 P, .int .i64 M, vm] 24)) (.cells #[.int .i64 stop] 3)
  have hA3 := kept_alloc ((w.alloc (.cells #[.int .i64 P, .int .i64 M, vm] 24)).alloc (.cells #[.int .i64 stop] 3)) (.cells #[.bool false] 4)
  have bs0 : Bx2 wA w.heap.size stop := by
    have r1 := (cell_new' (w.alloc (.cells #[.int .i64 P, .int .i64 M, vm] 24)) (.int .i64 stop) 3).1
    have r2 := cell_new' ((w.alloc (.cells #[.int .i64 P, .int .i64 M, vm] 24)).alloc (.cells #[.int .i64 stop] 3)) (.bool false) 4
    simp only [World.size_alloc] at r1 r2
    rw [hwA]
    exact ⟨by simp, (Kept.cell' hA3 (by simp)).trans r1, r2.1, r2.2⟩
  rw [← hwA] at hA3
  have hk : Kept w wA := (hA1.tr hA2).tr hA3
  have bx0 := (boxF_new w P M vm 24).kept (hA2.tr hA3)
  have sv := hvm.kept hk
  clear hA1 hA2 hA3
  refine (callsIn_wide (n := 3)).1 ?_
  by_cases hf : FieldP P M mod
  case neg =>
    have HF := hid hf
    clear hf
    refine callsIn_of_wp_marks Try.func5 rfl trivial ?_ rfl
    simp only [Try.ntmps5, List.size_toArray, List.length_cons, List.length_nil, Nat.reduceAdd, Nat.reduceSub, Array.replicate_succ, Array.replicate_zero, List.push_toArray, List.append_toArray, List.nil_append, List.cons_append]
    gi_wp2_with (first
      | (refine ⟨trivial, ?_⟩; gi_at_call 17; rw [← hwA]; clear hwA; refine (callsIn_wide.2 (alive_any _)).mono ?_; rintro e w1 ⟨rfl, ka⟩; have b1 := bx0.kept ka; have s1 := sv.kept ka; have hkA := hk.tr ka; have c3 := b1.h0; have c4 := b1.h1; have c5 := b1.h2; have bs1 := bs0.kept ka)
      | (refine ⟨trivial, ?_⟩; gi_at_call 18; refine (callsIn_wide.2 (made_no P M vm mod _ s1 HF.out)).mono ?_; rintro e w2 ⟨rfl, k2⟩; have hkB := hkA.tr k2; have s2 := hvm.kept hkB; have b2 := b1.kept k2; have d0 := b2.h0; have d1 := b2.h1; have d2 := b2.h2; have bs2 := bs1.kept k2)
      | (refine ⟨trivial, ?_⟩; gi_at_call 19; refine (callsIn_wide.2 (none_any P M vm mod _ s2 HF.out)).mono ?_; rintro e w3 ⟨rfl, k3⟩; have bs3 := bs2.kept k3; have i2 := bs3.h2; have i3 := bs3.h3))
    have j2 : (w3.setCell ⟨w.heap.size + 1 + 1, 0, none⟩ (.bool true)).cell? ⟨w.heap.size + 1 + 1, 0, none⟩ = some (.bool true) := World.cell?_setCell_same' _ _ _ (by rw [i2]; rfl)
    refine ⟨.bool true, ?_, rfl, (hkB.tr k3).setCell (p := ⟨w.heap.size + 1 + 1, 0, none⟩) (by show w.heap.size ≤ w.heap.size + 1 + 1; omega) _⟩
    simp [results, Try.f5, go_sem, j2]
  have HF := hid hf
  clear hf
  refine callsIn_of_wp_marks Try.func5 rfl trivial ?_ rfl
  simp only [Try.ntmps5, List.size_toArray, List.length_cons, List.length_nil, Nat.reduceAdd, Nat.reduceSub, Array.replicate_succ, Array.replicate_zero, List.push_toArray, List.append_toArray, List.nil_append, List.cons_append]
  gi_wp2_with (first
      | (refine ⟨trivial, ?_⟩; gi_at_call 17; rw [← hwA]; clear hwA; refine (callsIn_wide.2 (alive_any _)).mono ?_; rintro e w1 ⟨rfl, ka⟩; have b1 := bx0.kept ka; have s1 := sv.kept ka; have hkA := hk.tr ka; have c3 := b1.h0; have c4 := b1.h1; have c5 := b1.h2; have bs1 := bs0.kept ka))
  refine ⟨trivial, ?_⟩
  refine (callsIn_wide.2 (made_yes P M vm mod _ s1 HF.out)).mono ?_
  rintro e w2 ⟨b, G, rfl, hg2, t2, gP, gM, gm, k2⟩
  have hkC := hkA.tr k2
  have b2 := b1.kept k2
  have bs2 := bs1.kept k2
  have HO : Hid (Of G P M mod) := hid ⟨gP, gM, gm⟩
  clear gP gM gm
  have hnil := fun (W : World) (lb : Array Value) => run_eql_func_nil (P := Try.prog) W Try.underlying37 (.func 59) #[] lb
  gi_wp2_with (refine ⟨trivial, ?_⟩; gi_at_call 24; refine (callsIn_wide.2 (elements_any b _)).mono ?_; rintro e w3 ⟨rfl, hw3⟩)
  have hz := bs2.lt
  have kA := kept_alloc w2 (.cells #[.pointer (some ⟨b, 0, none⟩)] 26)
  have kB := kept_alloc (w2.alloc (.cells #[.pointer (some ⟨b, 0, none⟩)] 26)) (.cells #[.int .i64 0] 3)
  have n1 := cell_new' w2 (.pointer (some ⟨b, 0, none⟩)) 26
  have n2 := cell_new' (w2.alloc (.cells #[.pointer (some ⟨b, 0, none⟩)] 26)) (.int .i64 0) 3
  have hgW := hg2.kept (kA.tr kB)
  have bW := b2.kept (kA.tr kB)
  have bsW := bs2.kept (kA.tr kB)
  have hkW := (hkC.tr kA).tr kB
  have n3 := (Kept.cell' kB (b := w2.heap.size) (by simp)).trans n1.1
  have hzW : w2.heap.size + 1 < ((w2.alloc (.cells #[.pointer (some ⟨b, 0, none⟩)] 26)).alloc (.cells #[.int .i64 0] 3)).heap.size := by simp
  simp only [World.size_alloc] at n2
  obtain ⟨W0, hW0⟩ : ∃ W0, (w2.alloc (.cells #[.pointer (some ⟨b, 0, none⟩)] 26)).alloc (.cells #[.int .i64 0] 3) = W0 := ⟨_, rfl⟩
  rw [hW0] at n2 hgW bW bsW hkW n3 hzW ⊢
  obtain ⟨q1, q2, -⟩ := t2.qb
  have HQ : Hid (ordS P M = G.q) := hid (by rw [← HO.out.1, ← HO.out.2.1, ← t2.hq])
  obtain ⟨n2c, n2f⟩ := n2
  have fx0 := bW.h0
  have fx1 := bW.h1
  have fx2 := bW.h2
  have fx3 := bsW.h1
  have fx4 := bsW.h2
  have fx5 := bsW.h3
  have hst : stop < 1 ∨ (0 : Int) < stop := by omega
  refine wpIn_rangeFunc_ownF (F := Fence.wide) (n := 3) rfl (by decide) (gf := 59) (lb := #[.pointer (some ⟨w2.heap.size, 0, none⟩)]) rfl trivial (enters_of Try.func59 (by kernel_rfl) rfl)
    (elements_stops 2 b w2.heap.size G t2 W0 (by omega) n3 hgW) walksK_t walksK_b (Below.refl _ _) (fun _ => rfl)
    (fun pre W => (Hid (pre = upTo pre.length) ∧ (stop < 1 ∨ (pre.length : Int) < stop) ∧ W.cell? ⟨w2.heap.size + 1, 0, none⟩ = some (.int .i64 pre.length) ∧ W.frozen? ⟨w2.heap.size + 1, 0, none⟩ = false ∧ W.cell? ⟨w.heap.size, 0, none⟩ = some (.int .i64 P) ∧ W.cell? ⟨w.heap.size, 1, none⟩ = some (.int .i64 M) ∧ W.cell? ⟨w.heap.size, 2, none⟩ = some vm ∧ W.cell? ⟨w.heap.size + 1, 0, none⟩ = some (.int .i64 stop) ∧ W.cell? ⟨w.heap.size + 1 + 1, 0, none⟩ = some (.bool false) ∧ W.frozen? ⟨w.heap.size + 1 + 1, 0, none⟩ = false) ∧ Below w.heap.size w W)
    (fun c pre W => ((c = .exit 0 ∧ (pre.length : Int) = stop ∧ 1 ≤ stop ∧ W.cell? ⟨w2.heap.size + 1, 0, none⟩ = some (.int .i64 pre.length) ∧ W.frozen? ⟨w2.heap.size + 1, 0, none⟩ = false ∧ W.cell? ⟨w.heap.size, 0, none⟩ = some (.int .i64 P) ∧ W.cell? ⟨w.heap.size, 1, none⟩ = some (.int .i64 M) ∧ W.cell? ⟨w.heap.size, 2, none⟩ = some vm ∧ W.cell? ⟨w.heap.size + 1, 0, none⟩ = some (.int .i64 stop) ∧ W.cell? ⟨w.heap.size + 1 + 1, 0, none⟩ = some (.bool false) ∧ W.frozen? ⟨w.heap.size + 1 + 1, 0, none⟩ = false) ∨ (c = .ret ∧ Hid (¬ pre = upTo pre.length))) ∧ Below w.heap.size w W)
    (OwnFrom.and (Own.from (fun s A B row hs hg hr => by
      obtain ⟨a0, a1, a2, a3, a4, a5, a6, a7, a8, a9⟩ := hs
      exact ⟨a0, a1, cell_kept a2 hg hr, (frozen_kept a2 hg hr).trans a3, cell_kept a4 hg hr, cell_kept a5 hg hr, cell_kept a6 hg hr, cell_kept a7 hg hr, cell_kept a8 hg hr, (frozen_kept a8 hg hr).trans a9⟩) _) (ownFrom_below (Nat.le_refl _) (by omega)))
    (fun c => OwnFrom.and (Own.from (fun s A B row hs hg hr => by
      rcases hs with ⟨a0, a1, a1', a2, a3, a4, a5, a6, a7, a8, a9⟩ | hs
      · exact .inl ⟨a0, a1, a1', cell_kept a2 hg hr, (frozen_kept a2 hg hr).trans a3, cell_kept a4 hg hr, cell_kept a5 hg hr, cell_kept a6 hg hr, cell_kept a7 hg hr, cell_kept a8 hg hr, (frozen_kept a8 hg hr).trans a9⟩
      · exact .inr hs) _) (ownFrom_below (Nat.le_refl _) (by omega)))
    ⟨⟨hid rfl, hst, n2c, n2f, fx0, fx1, fx2, fx3, fx4, fx5⟩, hkW⟩
    (fun x => { tmps := #[.agg #[.int .i64 P, .int .i64 M, vm], .int .i64 stop, .pointer (some ⟨w.heap.size, 0, none⟩), .pointer (some ⟨w.heap.size + 1, 0, none⟩), .pointer (some ⟨w.heap.size + 1 + 1, 0, none⟩), .pointer (some ⟨b, 0, none⟩), .bool true, .func (.func 59) #[] #[.pointer (some ⟨w2.heap.size, 0, none⟩)], .pointer (some ⟨w2.heap.size + 1, 0, none⟩), .int .i64 x, undef, .bool true, .bool false, .tuple #[.pointer (some ⟨b, 0, none⟩), .bool true], .agg #[.int .i64 P, .int .i64 M, vm], .tuple #[.pointer (some ⟨b, 0, none⟩), .bool true], .pointer (some ⟨b, 0, none⟩), .bool true, .bool true, .bool false, undef, undef, .pointer (some ⟨b, 0, none⟩), .func (.func 59) #[] #[.pointer (some ⟨w2.heap.size, 0, none⟩)], .func (.func 59) #[] #[.pointer (some ⟨w2.heap.size, 0, none⟩)], .bool false, .func (.func 59) #[] #[.pointer (some ⟨w2.heap.size, 0, none⟩)], .int .i64 x, undef, undef, undef, undef, undef, undef, undef, undef, undef, undef, undef, undef, undef, undef, undef, undef, undef, undef, undef, undef, undef, undef, undef], defers := [] }) ?assign ?body ?done ?stop
  case assign =>
    intro l x W K hK
    gi_wp2
    exact hK
  case body =>
    rintro l pre x W ⟨⟨hp, hs, a2, a3, a4, a5, a6, a7, a8, a9⟩, hB⟩ hlen
    by_cases hx : x = (pre.length : Int)
    · subst hx
      have hw : wrap64 ((pre.length : Int) + 1) = (pre.length : Int) + 1 := by unfold wrap64; omega
      have hp2 : Hid (pre ++ [(pre.length : Int)] = upTo (pre ++ [(pre.length : Int)]).length) := hid (by rw [List.length_append, List.length_singleton, upTo_succ, ← hp.out])
      have hl2 : ((pre ++ [(pre.length : Int)]).length : Int) = (pre.length : Int) + 1 := by simp
      have HS := hid hs
      clear hs
      by_cases he : (pre.length : Int) + 1 = stop
      · gi_wp2
        have kS := (Below.refl (w2.heap.size + 1) W).setCell (p := ⟨w2.heap.size + 1, 0, none⟩) (Nat.le_refl _) (.int .i64 ((pre.length : Int) + 1))
        have z2 : (W.setCell ⟨w2.heap.size + 1, 0, none⟩ (.int .i64 ((pre.length : Int) + 1))).cell? ⟨w2.heap.size + 1, 0, none⟩ = some (.int .i64 ((pre ++ [(pre.length : Int)]).length : Int)) := by rw [hl2]; exact World.cell?_setCell_same' _ _ _ (by rw [a2]; rfl)
        have z3 : (W.setCell ⟨w2.heap.size + 1, 0, none⟩ (.int .i64 ((pre.length : Int) + 1))).frozen? ⟨w2.heap.size + 1, 0, none⟩ = false := by rw [World.frozen?_setCell]; exact a3
        have z4 := (kS.cell (p := ⟨w.heap.size, 0, none⟩) (by show w.heap.size < _; omega)).trans a4
        have z5 := (kS.cell (p := ⟨w.heap.size, 1, none⟩) (by show w.heap.size < _; omega)).trans a5
        have z6 := (kS.cell (p := ⟨w.heap.size, 2, none⟩) (by show w.heap.size < _; omega)).trans a6
        have z7 := (kS.cell (p := ⟨w.heap.size + 1, 0, none⟩) (by show w.heap.size + 1 < _; omega)).trans a7
        have z8 := (kS.cell (p := ⟨w.heap.size + 1 + 1, 0, none⟩) (by show w.heap.size + 1 + 1 < _; omega)).trans a8
        have z9 : (W.setCell ⟨w2.heap.size + 1, 0, none⟩ (.int .i64 ((pre.length : Int) + 1))).frozen? ⟨w.heap.size + 1 + 1, 0, none⟩ = false := by rw [World.frozen?_setCell]; exact a9
        have zB := hB.setCell (p := ⟨w2.heap.size + 1, 0, none⟩) (by show w.heap.size ≤ w2.heap.size + 1; omega) (.int .i64 ((pre.length : Int) + 1))
        rw [he] at z2 z3 z4 z5 z6 z7 z8 z9 zB
        exact ⟨KeepsOthers.setCell _ _ _, .inl ⟨rfl, by rw [hl2]; exact he, by omega, z2, z3, z4, z5, z6, z7, z8, z9⟩, zB⟩
      · gi_wp2
        have kS := (Below.refl (w2.heap.size + 1) W).setCell (p := ⟨w2.heap.size + 1, 0, none⟩) (Nat.le_refl _) (.int .i64 ((pre.length : Int) + 1))
        have z2 : (W.setCell ⟨w2.heap.size + 1, 0, none⟩ (.int .i64 ((pre.length : Int) + 1))).cell? ⟨w2.heap.size + 1, 0, none⟩ = some (.int .i64 ((pre ++ [(pre.length : Int)]).length : Int)) := by rw [hl2]; exact World.cell?_setCell_same' _ _ _ (by rw [a2]; rfl)
        have z3 : (W.setCell ⟨w2.heap.size + 1, 0, none⟩ (.int .i64 ((pre.length : Int) + 1))).frozen? ⟨w2.heap.size + 1, 0, none⟩ = false := by rw [World.frozen?_setCell]; exact a3
        have z4 := (kS.cell (p := ⟨w.heap.size, 0, none⟩) (by show w.heap.size < _; omega)).trans a4
        have z5 := (kS.cell (p := ⟨w.heap.size, 1, none⟩) (by show w.heap.size < _; omega)).trans a5
        have z6 := (kS.cell (p := ⟨w.heap.size, 2, none⟩) (by show w.heap.size < _; omega)).trans a6
        have z7 := (kS.cell (p := ⟨w.heap.size + 1, 0, none⟩) (by show w.heap.size + 1 < _; omega)).trans a7
        have z8 := (kS.cell (p := ⟨w.heap.size + 1 + 1, 0, none⟩) (by show w.heap.size + 1 + 1 < _; omega)).trans a8
        have z9 : (W.setCell ⟨w2.heap.size + 1, 0, none⟩ (.int .i64 ((pre.length : Int) + 1))).frozen? ⟨w.heap.size + 1 + 1, 0, none⟩ = false := by rw [World.frozen?_setCell]; exact a9
        have zB := hB.setCell (p := ⟨w2.heap.size + 1, 0, none⟩) (by show w.heap.size ≤ w2.heap.size + 1; omega) (.int .i64 ((pre.length : Int) + 1))
        exact ⟨KeepsOthers.setCell _ _ _, KeepsWalks.setCell _ _ _, ⟨hp2, by rw [hl2]; have := HS.out; omega, z2, z3, z4, z5, z6, z7, z8, z9⟩, zB⟩
    · have hne : Hid (¬ (pre ++ [x]) = upTo (pre ++ [x]).length) := hid (by
        intro h
        rw [List.length_append, List.length_singleton, upTo_succ, ← hp.out] at h
        exact hx (by simpa using List.append_cancel_left h))
      gi_wp2
      exact ⟨KeepsOthers.setCell _ _ _, .inr ⟨rfl, hne⟩, hB.setCell (p := ⟨w.heap.size + 1 + 1, 0, none⟩) (by show w.heap.size ≤ w.heap.size + 1 + 1; omega) _⟩
  case done =>
    rintro D ys W hD rfl ⟨⟨hp, hs, a2, a3, a4, a5, a6, a7, a8, a9⟩, hB⟩ hK
    have eq : ((upTo G.q.toNat).length : Int) = G.q := by rw [upTo_len]; omega
    rw [eq] at a2 hs
    clear eq hp
    have HK := hid hK
    clear hK
    by_cases hs1 : stop < 1
    · clear hs
      gi_wp2_with (refine ⟨trivial, ?_⟩; gi_at_call 25; refine (callsIn_wide.2 (rOrder_any P M vm _)).mono ?_; rintro e w11 ⟨rfl, k11⟩; rw [HQ.out]; have g2 := (Kept.cell' k11 (cell_lt' a2)).trans a2; have g7 := (Kept.cell' k11 (cell_lt' a7)).trans a7; have g8 := (Kept.cell' k11 (cell_lt' a8)).trans a8; have g9 := (Kept.frozen' k11 (cell_lt' a8)).trans a9)
      have hK := HK.out
      have hK1 : w11.heap[D]? = some (.deferred (some [])) := (Below.block k11 D (Array.getElem?_eq_some_iff.1 hK).1).trans hK
      have hK' := (KeepsOthers.setCell w11 ⟨w.heap.size + 1 + 1, 0, none⟩ (.bool true)).same D _ hK1 rfl
      refine ⟨by simp, .inl ⟨_, _, rfl, run_takeDeferred hK', ?_⟩⟩
      have hc5 := cell_kept (World.cell?_setCell_same' w11 ⟨w.heap.size + 1 + 1, 0, none⟩ (.bool true) (by rw [g8]; rfl)) (grownBy_putObj' _ D (.deferred none)) (fun r e => by cases e; exact ⟨_, hK', rfl⟩)
      refine ⟨.bool true, ?_, rfl, ((hB.trans (k11.mono hB.size)).setCell (p := ⟨w.heap.size + 1 + 1, 0, none⟩) (by show w.heap.size ≤ w.heap.size + 1 + 1; omega) _).trans (belowK_b (w := w) (Nat.le_refl _) _ D _ _ (by have := hkW.size; omega) hK' rfl rfl)⟩
      simp [results, Try.f5, go_sem, hc5]
    · have hs2 : G.q < stop := by omega
      clear hs
      gi_wp2_with (refine ⟨trivial, ?_⟩; gi_at_call 25; refine (callsIn_wide.2 (rOrder_any P M vm _)).mono ?_; rintro e w11 ⟨rfl, k11⟩; rw [HQ.out]; have g2 := (Kept.cell' k11 (cell_lt' a2)).trans a2; have g7 := (Kept.cell' k11 (cell_lt' a7)).trans a7; have g8 := (Kept.cell' k11 (cell_lt' a8)).trans a8; have g9 := (Kept.frozen' k11 (cell_lt' a8)).trans a9)
      have hK := HK.out
      have hK1 : w11.heap[D]? = some (.deferred (some [])) := (Below.block k11 D (Array.getElem?_eq_some_iff.1 hK).1).trans hK
      have hK' := (KeepsOthers.setCell w11 ⟨w.heap.size + 1 + 1, 0, none⟩ (.bool true)).same D _ hK1 rfl
      refine ⟨by simp, .inl ⟨_, _, rfl, run_takeDeferred hK', ?_⟩⟩
      have hc5 := cell_kept (World.cell?_setCell_same' w11 ⟨w.heap.size + 1 + 1, 0, none⟩ (.bool true) (by rw [g8]; rfl)) (grownBy_putObj' _ D (.deferred none)) (fun r e => by cases e; exact ⟨_, hK', rfl⟩)
      refine ⟨.bool true, ?_, rfl, ((hB.trans (k11.mono hB.size)).setCell (p := ⟨w.heap.size + 1 + 1, 0, none⟩) (by show w.heap.size ≤ w.heap.size + 1 + 1; omega) _).trans (belowK_b (w := w) (Nat.le_refl _) _ D _ _ (by have := hkW.size; omega) hK' rfl rfl)⟩
      simp [results, Try.f5, go_sem, hc5]
  case stop =>
    rintro D c pre W hD hpre ⟨⟨rfl, hl, hs, a2, a3, a4, a5, a6, a7, a8, a9⟩ | ⟨rfl, hne⟩, hB⟩ hK
    · obtain ⟨_, hle⟩ := upTo_of_pre hpre
      clear hpre
      rw [hl] at a2
      have hs1 : ¬ stop < 1 := by omega
      have hs2 : ¬ G.q < stop := by omega
      have HK := hid hK
      clear hK hl hs hle
      gi_wp2_with (refine ⟨trivial, ?_⟩; gi_at_call 25; refine (callsIn_wide.2 (rOrder_any P M vm _)).mono ?_; rintro e w11 ⟨rfl, k11⟩; rw [HQ.out]; have g2 := (Kept.cell' k11 (cell_lt' a2)).trans a2; have g7 := (Kept.cell' k11 (cell_lt' a7)).trans a7; have g8 := (Kept.cell' k11 (cell_lt' a8)).trans a8; have g9 := (Kept.frozen' k11 (cell_lt' a8)).trans a9)
      have hK := HK.out
      have hK1 : w11.heap[D]? = some (.deferred (some [])) := (Below.block k11 D (Array.getElem?_eq_some_iff.1 hK).1).trans hK
      have hK' := (KeepsOthers.setCell w11 ⟨w.heap.size + 1 + 1, 0, none⟩ (.bool true)).same D _ hK1 rfl
      refine ⟨by simp, .inl ⟨_, _, rfl, run_takeDeferred hK', ?_⟩⟩
      have hc5 := cell_kept (World.cell?_setCell_same' w11 ⟨w.heap.size + 1 + 1, 0, none⟩ (.bool true) (by rw [g8]; rfl)) (grownBy_putObj' _ D (.deferred none)) (fun r e => by cases e; exact ⟨_, hK', rfl⟩)
      refine ⟨.bool true, ?_, rfl, ((hB.trans (k11.mono hB.size)).setCell (p := ⟨w.heap.size + 1 + 1, 0, none⟩) (by show w.heap.size ≤ w.heap.size + 1 + 1; omega) _).trans (belowK_b (w := w) (Nat.le_refl _) _ D _ _ (by have := hkW.size; omega) hK' rfl rfl)⟩
      simp [results, Try.f5, go_sem, hc5]
    · exact (hne.out (upTo_of_pre hpre).1).elim
end Go.Proofs.Ytnmidgcmlkofjaa
