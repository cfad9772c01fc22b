/- append([]int{}, ys...): a copy in memory of its own. No conditions. -/
import Derived.Test.YtnmidgcmlkofjaaBb
import Derived.Deep.RegionLawGrows
namespace Go.Proofs.Ytnmidgcmlkofjaa
open Go.RowKit

theorem grownBy_some {w w' : World} {g : Nat} (h : w.grownBy w' none) : w.grownBy w' (some g) := ⟨h.os, h.tape, h.output, h.size, fun k hk _ => h.block k hk (by simp)⟩
theorem below_grown {w0 w w' : World} {B g : Nat} (h : Below B w0 w) (hg : w.grownBy w' (some g)) (hB : B ≤ w.heap.size) (hBg : B ≤ g) : Below B w0 w' := h.grown hg hB (fun k e => by cases e; exact hBg)

theorem run_copy_ints {w : World} {ty : TypeId} {B g0 : Nat} (hown : Own w B (.slice (some ⟨g0, 0, none⟩) 0 0) []) (ao : Option Addr) (c : Nat) (ys : List Int) (hc0 : ao = none → c = 0) (hys : ys ≠ [] → ao ≠ none)
    (hc : ∀ ad, ao = some ad → ∀ j, j < ys.length → w.cell? (ad.add j) = some (.int .i64 (ys.getD j 0))) (hlen : ys.length ≤ 1000000) :
    ∃ gm cm w', (Builtin.append_ #[22, 22] ty #[.slice (some ⟨g0, 0, none⟩) 0 0, .slice ao ys.length c]).run Try.prog w = .ok (.slice (some ⟨gm, 0, none⟩) ys.length cm) w' ∧ w.grownBy w' (some g0) ∧
      (ys ≠ [] → w.heap.size ≤ gm) ∧ B ≤ gm ∧ Own w' B (.slice (some ⟨gm, 0, none⟩) ys.length cm) ys := by
  obtain ⟨i0, hi, hz0, hz1, hz2⟩ := info_parts Try.infoInt
  have hcells : ∀ ad, ao = some ad → ∀ j u, (ys.map (Value.int .i64))[j]? = some u → w.cell? (ad.add j) = some u := fun ad had j u hu => by
    have hj : j < ys.length := by have := (List.getElem?_eq_some_iff.1 hu).1; simpa using this
    rw [hc ad had j hj]
    simp [List.getElem?_eq_getElem hj] at hu
    simp [List.getD, List.getElem?_eq_getElem hj, hu]
  by_cases hy : ys = []
  · subst hy
    cases ao with
    | none =>
      have h0 := hc0 rfl
      subst h0
      have hrun := run_append_owned_none (P := Try.prog) (w := w) B 22 ty 3 i0 1 Try.underlying22 hi _ 0 _ hown
      exact ⟨g0, 0, w, hrun, World.grownBy.refl _ _, fun h => absurd rfl h, hown.lt.1, hown⟩
    | some ad =>
      obtain ⟨w', hrun, h1, h2⟩ := run_append_fits (P := Try.prog) w B 22 ty 3 i0 1 Try.underlying22 hi hz1 g0 0 0 _ hown ad 0 c [] rfl (by simp) (by simp) (by simp)
      exact ⟨g0, 0, w', hrun, h2, fun h => absurd rfl h, hown.lt.1, by unfold Own; simpa using h1⟩
  · cases ao with
    | none => exact absurd rfl (hys hy)
    | some ad =>
      have hpos : 0 < ys.length := by cases ys with
        | nil => exact absurd rfl hy
        | cons _ _ => simp
      obtain ⟨v', w', hrun, h1, h2⟩ := run_append_arg_grows (P := Try.prog) w 22 ty 3 i0 (.int .i64 0) 1 8 Try.underlying22 hi hz0 hz1 hz2 rfl (by decide) ⟨g0, 0, none⟩ 0 0 [] rfl (by simp) ad ys.length c (ys.map (Value.int .i64)) (by simp) (hcells ad rfl) (by omega) (by unfold maxLen; omega) (by omega)
      have ho : Own w' w.heap.size v' ys := by unfold Own; simpa using h1
      rcases ho.form with ⟨_, e⟩ | ⟨gm, cm, rfl, h3, h4, _⟩
      · exact absurd e hy
      · have := hown.lt
        exact ⟨gm, cm, w', hrun, grownBy_some h2, fun _ => h3, by omega, ho.mono (by omega)⟩

theorem step_copy_ints {w : World} {ops : Array Oper} {o : Oper} {a : Act} {K : Act → World → Prop} {Q : Exit → Act → World → Prop} {E : Prop} (hgd : o.guard = none) (s x : Operand)
    (ho : o.op = .call { callee := .builtin .append, args := #[s, x], argTypes := #[22, 22] }) (B g0 : Nat) (hs : a.eval s = .slice (some ⟨g0, 0, none⟩) 0 0) (hown : Own w B (.slice (some ⟨g0, 0, none⟩) 0 0) [])
    (ao : Option Addr) (m c : Nat) (ys : List Int) (hx : a.eval x = .slice ao m c) (hm : ys.length = m) (hc0 : ao = none → c = 0) (hys : ys ≠ [] → ao ≠ none) (hc : ∀ ad, ao = some ad → ∀ j, j < ys.length → w.cell? (ad.add j) = some (.int .i64 (ys.getD j 0))) (hlen : ys.length ≤ 1000000)
    (h : ∀ gm cm w', w.grownBy w' (some g0) → (ys ≠ [] → w.heap.size ≤ gm) → B ≤ gm → Own w' B (.slice (some ⟨gm, 0, none⟩) m cm) ys → K (a.put o.dst (.slice (some ⟨gm, 0, none⟩) m cm)) w') :
    if Region.wanted o (yielded ops a.tmps) = true then Oper.wp Try.prog o a w K Q else E := by
  have hw : Region.wanted o (yielded ops a.tmps) = true := by simp [Region.wanted, hgd]
  rw [if_pos hw]
  subst hm
  obtain ⟨gm, cm, w', hrun, h1, h2, h3, h4⟩ := run_copy_ints (ty := o.type) hown ao c ys hc0 hys hc hlen
  unfold Oper.wp
  simp [execOp, ho, resolve, invoke, builtin, hs, hx, hrun, Result.andThen]
  exact h gm cm w' h1 h2 h3 h4
theorem wpList_copy_ints {w : World} {ops : Array Oper} {rest : List Oper} {o : Oper} {a : Act} {Q : Exit → Act → World → Prop} (hgd : o.guard = none) (s x : Operand)
    (ho : o.op = .call { callee := .builtin .append, args := #[s, x], argTypes := #[22, 22] }) (B g0 : Nat) (hs : a.eval s = .slice (some ⟨g0, 0, none⟩) 0 0) (hown : Own w B (.slice (some ⟨g0, 0, none⟩) 0 0) [])
    (ao : Option Addr) (m c : Nat) (ys : List Int) (hx : a.eval x = .slice ao m c) (hm : ys.length = m) (hc0 : ao = none → c = 0) (hys : ys ≠ [] → ao ≠ none) (hc : ∀ ad, ao = some ad → ∀ j, j < ys.length → w.cell? (ad.add j) = some (.int .i64 (ys.getD j 0))) (hlen : ys.length ≤ 1000000)
    (h : ∀ gm cm w', w.grownBy w' (some g0) → (ys ≠ [] → w.heap.size ≤ gm) → B ≤ gm → Own w' B (.slice (some ⟨gm, 0, none⟩) m cm) ys → wpList Try.prog ops Q rest (a.put o.dst (.slice (some ⟨gm, 0, none⟩) m cm)) w') : wpList Try.prog ops Q (o :: rest) a w :=
  wpList_plain hgd fun K hK => by
    have := step_copy_ints (E := False) (ops := ops) (K := K) (Q := Q) hgd s x ho B g0 hs hown ao m c ys hx hm hc0 hys hc hlen (fun gm cm w' h1 h2 h3 h4 => hK _ _ (h gm cm w' h1 h2 h3 h4))
    rwa [if_pos (by simp [Region.wanted, hgd])] at this

/-- make([]int, n), as an equation for a region that draws its order. -/
theorem run_make_ints (n : Nat) (hn : n ≤ 1000000) (w : World) : (Instr.makeSlice 22 (.int .i64 n) (.int .i64 n)).run Try.prog w = .ok (.slice (some ⟨w.heap.size, 0, none⟩) n n) (w.alloc (.cells (madeCells #[.int .i64 0] n) 3)) := by
  obtain ⟨i0, hi, hz0, hz1, hz2⟩ := info_parts Try.infoInt
  have h := run_make (P := Try.prog) w 22 3 i0 (.int .i64 0) Try.underlying22 hi hz0 .i64 .i64 n n (by omega) (Int.le_refl _) (by rw [hz2]; omega) (by omega)
  rw [hz1, Nat.mul_one, show (Value.int .i64 0).cells = #[.int .i64 0] from rfl] at h
  simpa using h
theorem own_make_ints {w : World} {n B : Nat} (hn : n ≤ 1000000) (hB : B ≤ w.heap.size) : Own (w.alloc (.cells (madeCells #[.int .i64 0] n) 3)) B (.slice (some ⟨w.heap.size, 0, none⟩) n n) (List.replicate n 0) := by
  refine own_made ?_
  have h := World.ownsRow_lit (size := 1) (e := 3) (base := B) w (madeCells #[.int .i64 0] n) n hB (by unfold maxLen; omega) (by simp [size_madeCells])
  rw [Nat.mul_one]
  exact h
theorem Own.grown {w w' : World} {B g n cap g' : Nat} {xs : List Int} (h : Own w B (.slice (some ⟨g, 0, none⟩) n cap) xs) (hg : w.grownBy w' (some g')) (hn : g ≠ g') : Own w' B (.slice (some ⟨g, 0, none⟩) n cap) xs :=
  h.of_block (hg.block g h.lt.2 (fun e => hn (by cases e; rfl)))
theorem grownBy_trans {a b c : World} {g : Nat} (h : a.grownBy b (some g)) (k : b.grownBy c (some g)) : a.grownBy c (some g) :=
  ⟨k.os.trans h.os, k.tape.trans h.tape, k.output.trans h.output, Nat.le_trans h.size k.size, fun i hi hn => (k.block i (Nat.lt_of_lt_of_le hi h.size) hn).trans (h.block i hi hn)⟩
theorem grownBy_setCell (w : World) (g i : Nat) (u : Value) : w.grownBy (w.setCell ⟨g, i, none⟩ u) (some g) :=
  ⟨rfl, rfl, rfl, by simp [World.setCell], fun k _ hn => Below.heap_setCell _ _ _ _ (fun e => hn (by rw [e]))⟩
end Go.Proofs.Ytnmidgcmlkofjaa
