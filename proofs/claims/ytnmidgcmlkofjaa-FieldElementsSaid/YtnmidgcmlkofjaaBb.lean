/- More words on memory: a slice of bools that the call made; append to a slice of ints that the call made. No conditions. -/
import Derived.Test.YtnmidgcmlkofjaaBase
import Derived.Laws.AppendOwnNone
import Derived.Lib.SliceRun
namespace Go.Proofs.Ytnmidgcmlkofjaa
open Go.RowKit

theorem run_nil_ints (w : World) (a : Option Addr) (n c : Nat) : (binOp .eql 22 (.slice a n c) (.slice none 0 0)).run Try.prog w = .ok (.bool a.isNone) w := Lib.run_eql_slice_nil w _ _ a n c 0 0 Try.underlying22
theorem run_nnil_ints (w : World) (a : Option Addr) (n c : Nat) : (binOp .neq 22 (.slice a n c) (.slice none 0 0)).run Try.prog w = .ok (.bool (!a.isNone)) w := run_neq_slice_nil_any w _ _ a n c 0 0 Try.underlying22
theorem Try.infoBool : (Try.prog.info? 4).map (fun i => (i.zero, i.size, i.bytes)) = some (some (.bool false), 1, 1) := by kernel_rfl

def OwnB (w : World) (B : Nat) (v : Value) (xs : List Bool) : Prop := w.ownsRow B 4 1 v xs.length (xs.map Value.bool)

theorem OwnB.form {w : World} {B : Nat} {v : Value} {xs : List Bool} (h : OwnB w B v xs) :
    (v = .slice none 0 0 ∧ xs = []) ∨ ∃ g cap, v = .slice (some ⟨g, 0, none⟩) xs.length cap ∧ B ≤ g ∧ g < w.heap.size := by
  obtain ⟨h1, h⟩ := h
  rcases h with ⟨h, h0⟩ | ⟨g, cap, cur, h, hb, hg, h2, h3, _⟩
  · exact .inl ⟨h, List.eq_nil_of_length_eq_zero h0⟩
  · exact .inr ⟨g, cap, h, hb, (Array.getElem?_eq_some_iff.1 hg).1⟩
theorem OwnB.len {w : World} {B g n cap : Nat} {xs : List Bool} (h : OwnB w B (.slice (some ⟨g, 0, none⟩) n cap) xs) : n = xs.length := by
  rcases h.form with ⟨e, _⟩ | ⟨_, _, e, _⟩
  · cases e
  · cases e; rfl
theorem OwnB.cell {w : World} {B g n cap : Nat} {xs : List Bool} (h : OwnB w B (.slice (some ⟨g, 0, none⟩) n cap) xs) {i : Nat} (hi : i < xs.length) :
    w.cell? ⟨g, i, none⟩ = some (.bool (xs.getD i false)) := by
  have hn := h.len
  subst hn
  have := World.ownsRow.cellAt h i (by omega)
  rw [this]
  simp [List.getD, hi]
theorem OwnB.frozen {w : World} {B g n cap : Nat} {xs : List Bool} (h : OwnB w B (.slice (some ⟨g, 0, none⟩) n cap) xs) (i : Nat) : w.frozen? ⟨g, i, none⟩ = false := by
  have hn := h.len
  subst hn
  exact World.ownsRow.frozenAt h i
theorem OwnB.set {w : World} {B g n cap : Nat} {xs : List Bool} (h : OwnB w B (.slice (some ⟨g, 0, none⟩) n cap) xs) (i : Nat) (x : Bool) :
    OwnB (w.setCell ⟨g, i, none⟩ (.bool x)) B (.slice (some ⟨g, 0, none⟩) n cap) (xs.set i x) := by
  have hn := h.len
  subst hn
  have := (World.ownsRow.stored h i (.bool x)).1
  unfold OwnB
  simpa [List.map_set] using this
theorem OwnB.of_block {w w' : World} {B g n cap : Nat} {xs : List Bool} (h : OwnB w B (.slice (some ⟨g, 0, none⟩) n cap) xs) (hb : w'.heap[g]? = w.heap[g]?) : OwnB w' B (.slice (some ⟨g, 0, none⟩) n cap) xs := by
  obtain ⟨h1, h⟩ := h
  rcases h with h | ⟨g', cap', cur, e, hb', hg, r⟩
  · exact ⟨h1, .inl h⟩
  · cases e
    exact ⟨h1, .inr ⟨g, cap, cur, rfl, hb', by rw [hb]; exact hg, r⟩⟩
theorem OwnB.mono {w : World} {B B' : Nat} {v : Value} {xs : List Bool} (h : OwnB w B v xs) (hB : B' ≤ B) : OwnB w B' v xs := by
  obtain ⟨h1, h⟩ := h
  rcases h with h | ⟨g, cap, cur, e, hb, r⟩
  · exact ⟨h1, .inl h⟩
  · exact ⟨h1, .inr ⟨g, cap, cur, e, Nat.le_trans hB hb, r⟩⟩
theorem OwnB.lt {w : World} {B g n cap : Nat} {xs : List Bool} (h : OwnB w B (.slice (some ⟨g, 0, none⟩) n cap) xs) : B ≤ g ∧ g < w.heap.size := by
  rcases h.form with ⟨e, _⟩ | ⟨_, _, e, h1, h2⟩
  · cases e
  · cases e; exact ⟨h1, h2⟩
theorem OwnB.kept {w w' : World} {B g n cap : Nat} {xs : List Bool} (h : OwnB w B (.slice (some ⟨g, 0, none⟩) n cap) xs) (k : Kept w w') : OwnB w' B (.slice (some ⟨g, 0, none⟩) n cap) xs := h.of_block (k.block g h.lt.2)
/-- A row of ints and a row of bools are two blocks. -/
theorem own_ne_ownB {w : World} {B B' g g' n n' cap cap' : Nat} {xs : List Int} {bs : List Bool} (h : Own w B (.slice (some ⟨g, 0, none⟩) n cap) xs) (h' : OwnB w B' (.slice (some ⟨g', 0, none⟩) n' cap') bs) : g ≠ g' := by
  rintro rfl
  obtain ⟨_, h | ⟨_, _, c1, e, _, hg, _⟩⟩ := h
  · cases h.1
  cases e
  obtain ⟨_, h' | ⟨_, _, c2, e, _, hg', _⟩⟩ := h'
  · cases h'.1
  cases e
  rw [hg] at hg'
  simp at hg'

theorem wpList_make_bools {w : World} {ops : Array Oper} {rest : List Oper} {o : Oper} {a : Act} {Q : Exit → Act → World → Prop}
    (hg : o.guard = none) (l c : Operand) (hop : o.op = Op.makeSlice 77 l c) (n : Nat) (L C : Int) (hl : a.eval l = .int .i64 L) (hc : a.eval c = .int .i64 C) (hL : L = (n : Int)) (hC : C = (n : Int)) (hn : n ≤ 1000000)
    (hK : ∀ w', OwnB w' w.heap.size (.slice (some ⟨w.heap.size, 0, none⟩) n n) (List.replicate n false) → Kept w w' → wpList Try.prog ops Q rest (a.put o.dst (.slice (some ⟨w.heap.size, 0, none⟩) n n)) w') :
    wpList Try.prog ops Q (o :: rest) a w := by
  obtain ⟨i0, hi, hz0, hz1, hz2⟩ := info_parts Try.infoBool
  refine wpList_make_full w hg l c 77 hop w.heap.size 4 i0 (.bool false) 1 Try.underlying77 hi hz0 hz1 .i64 .i64 L C n hl hc hL hC (by rw [hz2]; omega) (by unfold maxLen; omega) (Nat.le_refl _)
    fun w' h1 h2 => hK w' ?_ (kept_grown h2)
  have e : (madeCells (Value.bool false).cells (n * 1)).toList = (List.replicate n false).map Value.bool := by
    rw [Nat.mul_one, show (Value.bool false).cells = #[.bool false] from rfl, toList_madeCells_one, List.map_replicate]
  rw [e] at h1
  unfold OwnB
  simpa using h1

/-- append(v, ys...), v a slice that the call itself made, ys lying anywhere. -/
theorem wpList_append_ints {w : World} {ops : Array Oper} {rest : List Oper} {o : Oper} {a : Act} {Q : Exit → Act → World → Prop} (hgd : o.guard = none) (s x : Operand)
    (ho : o.op = .call { callee := .builtin .append, args := #[s, x], argTypes := #[22, 22] }) (B : Nat) (v : Value) (xs : List Int) (hs : a.eval s = v) (hown : Own w B v xs)
    (ao : Option Addr) (m c : Nat) (ys : List Int) (hx : a.eval x = .slice ao m c) (hm : ys.length = m) (hc0 : ao = none → c = 0) (hys : ys ≠ [] → ao ≠ none) (hc : ∀ ad, ao = some ad → ∀ j, j < ys.length → w.cell? (ad.add j) = some (.int .i64 (ys.getD j 0)))
    (hlen : xs.length + m ≤ 1000000) (hB : B ≤ w.heap.size)
    (h : ∀ v' w', Own w' B v' (xs ++ ys) → w.grownBy w' v.ownBlock → (v' = .slice none 0 0 ↔ v = .slice none 0 0 ∧ m = 0) → wpList Try.prog ops Q rest (a.put o.dst v') w') : wpList Try.prog ops Q (o :: rest) a w := by
  obtain ⟨i0, hi, hz0, hz1, hz2⟩ := info_parts Try.infoInt
  cases ao with
  | none =>
    have h0 : c = 0 := hc0 rfl
    have hy : ys = [] := by
      rcases ys with _ | ⟨y, ys⟩
      · rfl
      · exact absurd rfl (hys (by simp))
    subst hy
    simp at hm
    subst hm h0
    exact wpList_append_own_none hgd s x 22 ho B 3 i0 1 Try.underlying22 hi v xs.length _ hs hown hx (h v w (by simpa using hown) (World.grownBy.refl _ _) (by simp))
  | some ad =>
    refine wpList_append_own _ hgd s x 22 ho B 3 i0 (.int .i64 0) 1 8 Try.underlying22 hi hz0 hz1 hz2 rfl (by decide) v xs.length _ hs hown ad m c (ys.map (Value.int .i64)) hx (by simp [hm]) (fun j u hu => ?_) (ints_oneCell _ _) (by unfold maxLen; omega) (by omega) hB
      fun v' w' h1 h2 h3 => h v' w' (by unfold Own; simpa [hm] using h1) h2 h3
    have hj : j < ys.length := by have := (List.getElem?_eq_some_iff.1 hu).1; simpa using this
    rw [hc ad rfl j hj]
    simp [List.getElem?_eq_getElem hj] at hu
    simp [List.getD, List.getElem?_eq_getElem hj, hu]

/-- append(v, ys...), as a step of a region that draws its order. -/
theorem step_append_ints {w : World} {ops : Array Oper} {o : Oper} {a : Act} {K : Act → World → Prop} {Q : Exit → Act → World → Prop} {E : Prop} (hgd : o.guard = none) (s x : Operand)
    (ho : o.op = .call { callee := .builtin .append, args := #[s, x], argTypes := #[22, 22] }) (B : Nat) (v : Value) (xs : List Int) (hs : a.eval s = v) (hown : Own w B v xs)
    (ao : Option Addr) (m c : Nat) (ys : List Int) (hx : a.eval x = .slice ao m c) (hm : ys.length = m) (hc0 : ao = none → c = 0) (hys : ys ≠ [] → ao ≠ none) (hc : ∀ ad, ao = some ad → ∀ j, j < ys.length → w.cell? (ad.add j) = some (.int .i64 (ys.getD j 0)))
    (hlen : xs.length + m ≤ 1000000) (hB : B ≤ w.heap.size)
    (h : ∀ v' w', Own w' B v' (xs ++ ys) → w.grownBy w' v.ownBlock → (v' = .slice none 0 0 ↔ v = .slice none 0 0 ∧ m = 0) → K (a.put o.dst v') w') :
    if Region.wanted o (yielded ops a.tmps) = true then Oper.wp Try.prog o a w K Q else E := by
  have hw : Region.wanted o (yielded ops a.tmps) = true := by simp [Region.wanted, hgd]
  rw [if_pos hw]
  obtain ⟨i0, hi, hz0, hz1, hz2⟩ := info_parts Try.infoInt
  cases ao with
  | none =>
    have h0 : c = 0 := hc0 rfl
    have hy : ys = [] := by
      rcases ys with _ | ⟨y, ys⟩
      · rfl
      · exact absurd rfl (hys (by simp))
    subst hy
    simp at hm
    subst hm h0
    have hrun := run_append_owned_none (P := Try.prog) (w := w) B 22 o.type 3 i0 1 Try.underlying22 hi v xs.length _ hown
    unfold Oper.wp
    simp [execOp, ho, resolve, invoke, builtin, hs, hx, hrun, Result.andThen]
    exact h v w (by simpa using hown) (World.grownBy.refl _ _) (by simp)
  | some ad =>
    refine wp_append_own _ s x 22 ho B 3 i0 (.int .i64 0) 1 8 Try.underlying22 hi hz0 hz1 hz2 rfl (by decide) v xs.length _ hs hown ad m c (ys.map (Value.int .i64)) hx (by simp [hm]) (fun j u hu => ?_) (ints_oneCell _ _) (by unfold maxLen; omega) (by omega) hB
      fun v' w' h1 h2 h3 => h v' w' (by unfold Own; simpa [hm] using h1) h2 h3
    have hj : j < ys.length := by have := (List.getElem?_eq_some_iff.1 hu).1; simpa using this
    rw [hc ad rfl j hj]
    simp [List.getElem?_eq_getElem hj] at hu
    simp [List.getD, List.getElem?_eq_getElem hj, hu]
theorem own_empty {w : World} {B : Nat} (hB : B ≤ w.heap.size) : Own (w.alloc (.cells #[] 3)) B (.slice (some ⟨w.heap.size, 0, none⟩) 0 0) [] := by
  have h0 := World.ownsRow_lit (size := 1) (e := 3) (base := B) w #[] 0 hB (by unfold maxLen; omega) rfl
  unfold Own; simpa using h0
theorem cell_new {w : World} {b : Nat} {v : Value} {T : TypeId} (h : w.heap.size = b) : (w.alloc (.cells #[v] T)).cell? ⟨b, 0, none⟩ = some v := by subst h; simp
/-- append(v, y). -/
theorem wpList_append_one {w : World} {ops : Array Oper} {rest : List Oper} {o : Oper} {a : Act} {Q : Exit → Act → World → Prop} (hgd : o.guard = none) (s x : Operand)
    (ho : o.op = .call { callee := .builtin .append, args := #[s, x], argTypes := #[22, 22] }) (B : Nat) (v : Value) (xs : List Int) (hs : a.eval s = v) (hown : Own w B v xs)
    (ad : Addr) (y : Int) (hx : a.eval x = .slice (some ad) 1 1) (hc : w.cell? ad = some (.int .i64 y)) (hlen : xs.length + 1 ≤ 1000000) (hB : B ≤ w.heap.size)
    (h : ∀ v' w', Own w' B v' (xs ++ [y]) → w.grownBy w' v.ownBlock → wpList Try.prog ops Q rest (a.put o.dst v') w') : wpList Try.prog ops Q (o :: rest) a w :=
  wpList_append_ints hgd s x ho B v xs hs hown (some ad) 1 1 [y] hx rfl (by simp) (by simp) (fun ad' e j hj => by
    cases e
    obtain rfl : j = 0 := by simpa using hj
    have : ad.add 0 = ad := by cases ad; simp [Addr.add]
    rw [this, hc]; rfl) hlen hB fun v' w' h1 h2 _ => h v' w' h1 h2

/-- What was there before, and lies in another block than the slice that was appended to, is as it was. -/
theorem below_append {w0 w w' : World} {B B' : Nat} {v : Value} {xs : List Int} (h : Below B w0 w) (hB : B ≤ w.heap.size) (hown : Own w B' v xs) (hB' : B ≤ B') (hg : w.grownBy w' v.ownBlock) : Below B w0 w' :=
  h.grown hg hB (fun k hk => by
    rcases hown.form with ⟨rfl, _⟩ | ⟨g, cap, rfl, hg', _⟩
    · cases hk
    · cases hk; exact Nat.le_trans hB' hg')
theorem OwnB.append {w w' : World} {B B' g n cap : Nat} {v : Value} {xs : List Int} {bs : List Bool} (h : OwnB w B (.slice (some ⟨g, 0, none⟩) n cap) bs) (hown : Own w B' v xs) (hg : w.grownBy w' v.ownBlock) : OwnB w' B (.slice (some ⟨g, 0, none⟩) n cap) bs :=
  h.of_block (hg.block g h.lt.2 (fun e => by
    rcases hown.form with ⟨rfl, _⟩ | ⟨g', cap', rfl, _⟩
    · cases e
    · cases e; exact own_ne_ownB hown h rfl))
theorem Own.setB {w : World} {B B' g n cap : Nat} {v : Value} {xs : List Int} {bs : List Bool} (h : Own w B v xs) (hb : OwnB w B' (.slice (some ⟨g, 0, none⟩) n cap) bs) (i : Nat) (u : Value) : Own (w.setCell ⟨g, i, none⟩ u) B v xs := by
  rcases h.form with ⟨rfl, rfl⟩ | ⟨g', cap', rfl, _⟩
  · exact own_nil _ _
  · exact h.of_block (Below.heap_setCell _ _ _ _ (own_ne_ownB h hb))
attribute [go_sem] run_nil_ints run_nnil_ints
end Go.Proofs.Ytnmidgcmlkofjaa
