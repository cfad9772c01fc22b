/- Words on memory that the walks share: a slice of ints that is read, one that the call itself made, a field in memory. No conditions. -/
import Derived.Test.YtnmidgcmlkofjaaProg
import Derived.WalkKit
import Derived.WalkSpells
import Derived.WalkSmall
import Derived.BigQuiet
namespace Go.Proofs.Ytnmidgcmlkofjaa
open Go.RowKit

theorem hid {p : Prop} (h : p) : Hid p := h
theorem ret_int {k : IntKind} {a b : Int} (h : a = b) : Ending.returned (.int k a) = .returned (.int k b) := by rw [h]
theorem ret_bool {a b : Bool} (h : a = b) : Ending.returned (.bool a) = .returned (.bool b) := by rw [h]
theorem val_int {k : IntKind} {a b : Int} (h : a = b) : Value.int k a = .int k b := by rw [h]

theorem Try.infoInt : (Try.prog.info? 3).map (fun i => (i.zero, i.size, i.bytes)) = some (some (.int .i64 0), 1, 8) := by kernel_rfl

/-- The world w' is w but for new blocks and draws. -/
abbrev Kept (w w' : World) : Prop := Below w.heap.size w w'
theorem Kept.rfl' (w : World) : Kept w w := Below.refl _ _
theorem Kept.tr {a b c : World} (h : Kept a b) (k : Kept b c) : Kept a c := Below.trans h (k.mono h.size)
theorem kept_drewN (w : World) (n : Nat) : Kept w (w.drewN n) := below_drewN (Below.refl _ _) n
theorem Kept.drewN {w w' : World} (h : Kept w w') (n : Nat) : Kept w (w'.drewN n) := below_drewN h n
theorem Kept.cell' {w w' : World} (h : Kept w w') {b o : Nat} (hb : b < w.heap.size) : w'.cell? ⟨b, o, none⟩ = w.cell? ⟨b, o, none⟩ := Below.cell h (p := ⟨b, o, none⟩) hb
theorem kept_alloc (w : World) (o : Obj) : Kept w (w.alloc o) := (Below.refl _ _).alloc (Nat.le_refl _) o
theorem Kept.lt {w w' : World} (h : Kept w w') {b : Nat} (hb : b < w.heap.size) : b < w'.heap.size := Nat.lt_of_lt_of_le hb h.size

/-- The value v is a slice that reads as xs. -/
def Sl (w : World) (v : Value) (xs : List Int) : Prop :=
  ∃ (a : Option Addr) (cap : Nat), v = .slice a xs.length cap ∧ xs.length ≤ cap ∧ (cap ≤ maxLen ∧ (a = none → cap = 0)) ∧
    (xs ≠ [] → ∃ b off, a = some ⟨b, off, none⟩ ∧ b < w.heap.size ∧ ∀ i, i < xs.length → w.cell? ⟨b, off + i, none⟩ = some (.int .i64 (xs.getD i 0)))

theorem Sl.kept {w w' : World} {v : Value} {xs : List Int} (h : Sl w v xs) (k : Kept w w') : Sl w' v xs := by
  obtain ⟨a, cap, h1, h2, h3, h4⟩ := h
  refine ⟨a, cap, h1, h2, h3, fun hx => ?_⟩
  obtain ⟨b, off, e, hb, hc⟩ := h4 hx
  exact ⟨b, off, e, k.lt hb, fun i hi => (k.cell' hb).trans (hc i hi)⟩

/-- The value v is a slice that reads as xs, made by the call itself: in a block from B on. -/
def Own (w : World) (B : Nat) (v : Value) (xs : List Int) : Prop := w.ownsRow B 3 1 v xs.length (xs.map (Value.int .i64))

theorem Own.lt {w : World} {B g n cap : Nat} {xs : List Int} (h : Own w B (.slice (some ⟨g, 0, none⟩) n cap) xs) : B ≤ g ∧ g < w.heap.size := by
  obtain ⟨_, h⟩ := h
  rcases h with ⟨h, _⟩ | ⟨g', cap', cur, h, hb, hg, _⟩
  · cases h
  · cases h
    exact ⟨hb, (Array.getElem?_eq_some_iff.1 hg).1⟩

theorem Own.form {w : World} {B : Nat} {v : Value} {xs : List Int} (h : Own w B v xs) :
    (v = .slice none 0 0 ∧ xs = []) ∨ ∃ g cap, v = .slice (some ⟨g, 0, none⟩) xs.length cap ∧ B ≤ g ∧ g < w.heap.size ∧ xs.length ≤ cap ∧ cap ≤ maxLen := by
  obtain ⟨h1, h⟩ := h
  rcases h with ⟨h, h0⟩ | ⟨g, cap, cur, h, hb, hg, h2, h3, _⟩
  · exact .inl ⟨h, List.eq_nil_of_length_eq_zero h0⟩
  · exact .inr ⟨g, cap, h, hb, (Array.getElem?_eq_some_iff.1 hg).1, h2, h3⟩

theorem Own.cell {w : World} {B g n cap : Nat} {xs : List Int} (h : Own w B (.slice (some ⟨g, 0, none⟩) n cap) xs) {i : Nat} (hi : i < xs.length) :
    w.cell? ⟨g, i, none⟩ = some (.int .i64 (xs.getD i 0)) := by
  have hn : n = xs.length := by
    rcases h.form with ⟨e, _⟩ | ⟨_, _, e, _⟩
    · cases e
    · cases e; rfl
  subst hn
  have := World.ownsRow.cellAt h i (by omega)
  rw [this]
  simp [List.getD, hi]

theorem Own.frozen {w : World} {B g n cap : Nat} {xs : List Int} (h : Own w B (.slice (some ⟨g, 0, none⟩) n cap) xs) (i : Nat) : w.frozen? ⟨g, i, none⟩ = false := by
  have hn : n = xs.length := by
    rcases h.form with ⟨e, _⟩ | ⟨_, _, e, _⟩
    · cases e
    · cases e; rfl
  subst hn
  exact World.ownsRow.frozenAt h i

theorem Own.set {w : World} {B g n cap : Nat} {xs : List Int} (h : Own w B (.slice (some ⟨g, 0, none⟩) n cap) xs) (i : Nat) (x : Int) :
    Own (w.setCell ⟨g, i, none⟩ (.int .i64 x)) B (.slice (some ⟨g, 0, none⟩) n cap) (xs.set i x) := by
  have hn : n = xs.length := by
    rcases h.form with ⟨e, _⟩ | ⟨_, _, e, _⟩
    · cases e
    · cases e; rfl
  subst hn
  have := (World.ownsRow.stored h i (.int .i64 x)).1
  unfold Own
  simpa [List.map_set] using this

theorem Own.sl {w : World} {B : Nat} {v : Value} {xs : List Int} (h : Own w B v xs) : Sl w v xs := by
  rcases h.form with ⟨rfl, rfl⟩ | ⟨g, cap, rfl, _, hg, h2, h3⟩
  · exact ⟨none, 0, rfl, Nat.le_refl _, ⟨Nat.zero_le _, fun _ => rfl⟩, fun h => absurd rfl h⟩
  · exact ⟨_, cap, rfl, h2, ⟨h3, fun e => by cases e⟩, fun _ => ⟨g, 0, rfl, hg, fun i hi => by rw [Nat.zero_add]; exact h.cell hi⟩⟩

/-- What is owned stays owned where its block is as it was. -/
theorem Own.of_block {w w' : World} {B g n cap : Nat} {xs : List Int} (h : Own w B (.slice (some ⟨g, 0, none⟩) n cap) xs) (hb : w'.heap[g]? = w.heap[g]?) : Own w' B (.slice (some ⟨g, 0, none⟩) n cap) xs := by
  obtain ⟨h1, h⟩ := h
  rcases h with h | ⟨g', cap', cur, e, hb', hg, r⟩
  · exact ⟨h1, .inl h⟩
  · cases e
    exact ⟨h1, .inr ⟨g, cap, cur, rfl, hb', by rw [hb]; exact hg, r⟩⟩

theorem Own.kept {w w' : World} {B : Nat} {v : Value} {xs : List Int} (h : Own w B v xs) (k : Kept w w') : Own w' B v xs := by
  rcases h.form with ⟨rfl, rfl⟩ | ⟨g, cap, rfl, _, hg, h2, h3⟩
  · exact ⟨rfl, .inl ⟨rfl, rfl⟩⟩
  · exact h.of_block (k.block g hg)

theorem Own.setOther {w : World} {B : Nat} {v : Value} {xs : List Int} (h : Own w B v xs) (p : Addr) (u : Value) (hp : ∀ g n cap, v = .slice (some ⟨g, 0, none⟩) n cap → g ≠ p.block) : Own (w.setCell p u) B v xs := by
  rcases h.form with ⟨rfl, rfl⟩ | ⟨g, cap, rfl, _, hg, h2, h3⟩
  · exact ⟨rfl, .inl ⟨rfl, rfl⟩⟩
  · exact h.of_block (Below.heap_setCell _ _ _ _ (hp _ _ _ rfl))

theorem Own.drew {w : World} {B : Nat} {v : Value} {xs : List Int} (h : Own w B v xs) : Own w.drew B v xs := World.ownsRow.drew h
theorem Own.drewN {w : World} {B : Nat} {v : Value} {xs : List Int} (h : Own w B v xs) (n : Nat) : Own (w.drewN n) B v xs := h.kept (kept_drewN w n)
theorem Own.mono {w : World} {B B' : Nat} {v : Value} {xs : List Int} (h : Own w B v xs) (hB : B' ≤ B) : Own w B' v xs := by
  obtain ⟨h1, h⟩ := h
  rcases h with h | ⟨g, cap, cur, e, hb, r⟩
  · exact ⟨h1, .inl h⟩
  · exact ⟨h1, .inr ⟨g, cap, cur, e, Nat.le_trans hB hb, r⟩⟩

theorem own_nil (w : World) (B : Nat) : Own w B (.slice none 0 0) [] := ⟨rfl, .inl ⟨rfl, rfl⟩⟩

/-- make([]int, n). -/
theorem own_made {w : World} {B g n : Nat} (h : w.ownsRow B 3 1 (.slice (some ⟨g, 0, none⟩) n n) n (madeCells (Value.int .i64 0).cells (n * 1)).toList) :
    Own w B (.slice (some ⟨g, 0, none⟩) n n) (List.replicate n 0) := by
  unfold Own
  have e : (madeCells (Value.int .i64 0).cells (n * 1)).toList = (List.replicate n (0 : Int)).map (Value.int .i64) := by
    rw [Nat.mul_one, show (Value.int .i64 0).cells = #[.int .i64 0] from rfl, toList_madeCells_one, List.map_replicate]
  rw [e] at h
  simpa using h
theorem kept_grown {w w' : World} (h : w.grownBy w' none) : Kept w w' := (Below.refl _ _).grown h (Nat.le_refl _) (fun _ e => by cases e)

theorem Kept.frozen' {w w' : World} (h : Kept w w') {b o : Nat} (hb : b < w.heap.size) : w'.frozen? ⟨b, o, none⟩ = w.frozen? ⟨b, o, none⟩ := Below.frozen h (p := ⟨b, o, none⟩) hb

/-- make([]int, n), for the walk. -/
theorem wpList_make_ints {w : World} {ops : Array Oper} {rest : List Oper} {o : Oper} {a : Act} {Q : Exit → Act → World → Prop}
    (hg : o.guard = none) (l c : Operand) (hop : o.op = Op.makeSlice 22 l c) (n : Nat) (L C : Int) (hl : a.eval l = .int .i64 L) (hc : a.eval c = .int .i64 C) (hL : L = (n : Int)) (hC : C = (n : Int)) (hn : n ≤ 1000000)
    (hK : ∀ w', Own w' w.heap.size (.slice (some ⟨w.heap.size, 0, none⟩) n n) (List.replicate n 0) → Kept w w' → wpList Try.prog ops Q rest (a.put o.dst (.slice (some ⟨w.heap.size, 0, none⟩) n n)) w') :
    wpList Try.prog ops Q (o :: rest) a w := by
  obtain ⟨i0, hi, hz0, hz1, hz2⟩ := info_parts Try.infoInt
  exact wpList_make_full w hg l c 22 hop w.heap.size 3 i0 (.int .i64 0) 1 Try.underlying22 hi hz0 hz1 .i64 .i64 L C n hl hc hL hC (by rw [hz2]; omega) (by unfold maxLen; omega) (Nat.le_refl _)
    fun w' h1 h2 => hK w' (own_made h1) (kept_grown h2)

/-- A box of a field's description. -/
structure BoxF (w : World) (b : Nat) (p m : Int) (vm : Value) : Prop where
  lt : b < w.heap.size
  h0 : w.cell? ⟨b, 0, none⟩ = some (.int .i64 p)
  h1 : w.cell? ⟨b, 1, none⟩ = some (.int .i64 m)
  h2 : w.cell? ⟨b, 2, none⟩ = some vm
theorem BoxF.below {w w' : World} {b B : Nat} {p m : Int} {vm : Value} (h : BoxF w b p m vm) (k : Below B w w') (hb : b < B) : BoxF w' b p m vm :=
  ⟨Nat.lt_of_lt_of_le h.lt k.size, (Below.cell k (p := ⟨b, 0, none⟩) hb).trans h.h0, (Below.cell k (p := ⟨b, 1, none⟩) hb).trans h.h1, (Below.cell k (p := ⟨b, 2, none⟩) hb).trans h.h2⟩
theorem BoxF.kept {w w' : World} {b : Nat} {p m : Int} {vm : Value} (h : BoxF w b p m vm) (k : Kept w w') : BoxF w' b p m vm := h.below k h.lt
theorem boxF_new (w : World) (p m : Int) (vm : Value) (T : TypeId) : BoxF (w.alloc (.cells #[.int .i64 p, .int .i64 m, vm] T)) w.heap.size p m vm :=
  ⟨by simp, by simp, by simp, by simp⟩
theorem BoxF.drewN {w : World} {b : Nat} {p m : Int} {vm : Value} (h : BoxF w b p m vm) (n : Nat) : BoxF (w.drewN n) b p m vm := h.kept (kept_drewN w n)
theorem BoxF.drew {w : World} {b : Nat} {p m : Int} {vm : Value} (h : BoxF w b p m vm) : BoxF w.drew b p m vm := ⟨h.lt, h.h0, h.h1, h.h2⟩
theorem kept_drew (w : World) : Kept w w.drew := Below.drew (Below.refl _ _)
theorem Own.below {w w' : World} {B B' : Nat} {v : Value} {xs : List Int} (h : Own w B v xs) (k : Below B' w w') (hv : ∀ g n cap, v = .slice (some ⟨g, 0, none⟩) n cap → g < B') : Own w' B v xs := by
  rcases h.form with ⟨rfl, rfl⟩ | ⟨g, cap, rfl, _, hg, h2, h3⟩
  · exact ⟨rfl, .inl ⟨rfl, rfl⟩⟩
  · exact h.of_block (k.block g (hv _ _ _ rfl))
theorem Sl.below {w w' : World} {B : Nat} {v : Value} {xs : List Int} (h : Sl w v xs) (k : Below B w w') (hB : w.heap.size ≤ B) : Sl w' v xs := h.kept (k.mono hB)

theorem Own.get {w : World} {B : Nat} {v : Value} {xs : List Int} (h : Own w B v xs) (hn : v ≠ .slice none 0 0) : ∃ g cap, v = .slice (some ⟨g, 0, none⟩) xs.length cap ∧ B ≤ g ∧ g < w.heap.size := by
  rcases h.form with ⟨e, _⟩ | ⟨g, cap, e, h1, h2, _⟩
  · exact absurd e hn
  · exact ⟨g, cap, e, h1, h2⟩

end Go.Proofs.Ytnmidgcmlkofjaa
