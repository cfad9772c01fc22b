/- The walk of Field: the description is copied out. Conditions: the field lies in memory with its tables. And that of Check. -/
import Derived.Test.YtmakdclgpeochaaFg
import Derived.Test.YtmakdclgpeochaaSpA
namespace Go.Proofs.Ytmakdclgpeochaa
open Go.RowKit Cw

theorem cell_set3 {w : World} {b c i : Nat} {x y z : Value} (h : b ≠ c) : (((w.setCell ⟨c, 0, none⟩ x).setCell ⟨c, 1, none⟩ y).setCell ⟨c, 2, none⟩ z).cell? ⟨b, i, none⟩ = w.cell? ⟨b, i, none⟩ := by
  have e : ∀ (w : World) (j : Nat) (v : Value), (w.setCell ⟨c, j, none⟩ v).cell? ⟨b, i, none⟩ = w.cell? ⟨b, i, none⟩ := fun w j v => World.cell?_of_block (a := ⟨b, i, none⟩) (Below.heap_setCell _ _ _ _ h)
  rw [e, e, e]

end Go.Proofs.Ytmakdclgpeochaa
