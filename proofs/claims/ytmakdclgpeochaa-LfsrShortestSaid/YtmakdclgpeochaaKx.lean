/- An empty slice that the text itself lays; a list of one element. No conditions. -/
import Derived.Test.YtmakdclgpeochaaKf
import Derived.Test.YtmakdclgpeochaaKw
namespace Go.Proofs.Ytmakdclgpeochaa
open Go.RowKit Cw

theorem own_zero {w : World} {B : Nat} (hB : B ≤ w.heap.size) : Own (w.alloc (.cells #[] 3)) B (.slice (some ⟨w.heap.size, 0, none⟩) 0 0) [] := by
  have h0 := World.ownsRow_lit (size := 1) (e := 3) (base := B) w #[] 0 hB (by unfold maxLen; omega) rfl
  unfold Own; simpa using h0
theorem can_unit {G : GFd} {x : Int} (h : 0 ≤ x ∧ x < G.q) (h0 : inn G.q x ≠ 0) : Cano G [x] := ⟨fun y hy => by rw [List.mem_singleton.1 hy]; exact h, fun _ => by rw [inn_yes h] at h0; exact h0⟩
end Go.Proofs.Ytmakdclgpeochaa
