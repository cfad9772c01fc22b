/- Short slices that the text itself lays; more words on slices of slices. No conditions. -/
import Derived.Test.YtmakdclgpeochaaKe
namespace Go.Proofs.Ytmakdclgpeochaa
open Go.RowKit Cw

theorem own_two {w : World} {B : Nat} {x y : Int} (hB : B ≤ w.heap.size) : Own (w.alloc (.cells #[.int .i64 x, .int .i64 y] 3)) B (.slice (some ⟨w.heap.size, 0, none⟩) 2 2) [x, y] := by
  have h0 := World.ownsRow_lit (size := 1) (e := 3) (base := B) w #[.int .i64 x, .int .i64 y] 2 hB (by unfold maxLen; omega) rfl
  unfold Own; simpa using h0
theorem own_three {w : World} {B : Nat} {x y z : Int} (hB : B ≤ w.heap.size) : Own (w.alloc (.cells #[.int .i64 x, .int .i64 y, .int .i64 z] 3)) B (.slice (some ⟨w.heap.size, 0, none⟩) 3 3) [x, y, z] := by
  have h0 := World.ownsRow_lit (size := 1) (e := 3) (base := B) w #[.int .i64 x, .int .i64 y, .int .i64 z] 3 hB (by unfold maxLen; omega) rfl
  unfold Own; simpa using h0
theorem own_four {w : World} {B : Nat} {x y z u : Int} (hB : B ≤ w.heap.size) : Own (w.alloc (.cells #[.int .i64 x, .int .i64 y, .int .i64 z, .int .i64 u] 3)) B (.slice (some ⟨w.heap.size, 0, none⟩) 4 4) [x, y, z, u] := by
  have h0 := World.ownsRow_lit (size := 1) (e := 3) (base := B) w #[.int .i64 x, .int .i64 y, .int .i64 z, .int .i64 u] 4 hB (by unfold maxLen; omega) rfl
  unfold Own; simpa using h0
theorem sl_none (w : World) : Sl w (.slice none 0 0) [] := ⟨none, 0, rfl, Nat.le_refl _, ⟨by unfold maxLen; omega, fun _ => rfl⟩, fun h => absurd rfl h⟩
theorem cell_setNe {w : World} {g i b o : Nat} (u : Value) (h : b ≠ g) : (w.setCell ⟨g, i, none⟩ u).cell? ⟨b, o, none⟩ = w.cell? ⟨b, o, none⟩ := World.cell?_of_block (a := ⟨b, o, none⟩) (Below.heap_setCell _ _ _ _ h)
theorem own_up {w : World} {B B' : Nat} {v : Value} {xs : List Int} (h : Own w B v xs) (hb : ∀ g n cap, v = .slice (some ⟨g, 0, none⟩) n cap → B' ≤ g) : Own w B' v xs := by
  obtain ⟨h1, h⟩ := h
  rcases h with h | ⟨g, cap, cur, e, hB, r⟩
  · exact ⟨h1, .inl h⟩
  · exact ⟨h1, .inr ⟨g, cap, cur, e, hb _ _ _ e, r⟩⟩
theorem cell_allocNe {w : World} {o : Obj} {b i : Nat} (h : b < w.heap.size) : (w.alloc o).cell? ⟨b, i, none⟩ = w.cell? ⟨b, i, none⟩ := Kept.cell' (kept_alloc w o) h
theorem beq0 {n : Nat} (h : 0 < n) : ((n : Int) == 0) = false := by simp; omega
theorem run_fieldP (w : World) (x y z : Value) : (Instr.field 24 (.agg #[x, y, z]) 0).run Try.prog w = .ok x w := by kernel_rfl
end Go.Proofs.Ytmakdclgpeochaa
