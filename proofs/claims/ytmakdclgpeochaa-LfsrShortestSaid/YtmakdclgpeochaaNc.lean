/- The walk of the laws' alive (chapter 05). No conditions. -/
import Derived.Test.YtmakdclgpeochaaNb
namespace Go.Proofs.Ytmakdclgpeochaa
open Go.RowKit Cw

theorem sll_two (w : World) (a1 a2 : Option Addr) (c1 c2 : Nat) (l1 l2 : List Int) (T : TypeId) (h1 : Sl w (.slice a1 l1.length c1) l1) (h2 : Sl w (.slice a2 l2.length c2) l2) :
    SlL (w.alloc (.cells #[.slice a1 l1.length c1, .slice a2 l2.length c2] T)) (.slice (some ⟨w.heap.size, 0, none⟩) 2 2) [l1, l2] := by
  have k := kept_alloc w (.cells #[.slice a1 l1.length c1, .slice a2 l2.length c2] T)
  refine ⟨_, 2, rfl, by simp, by unfold maxLen; omega, fun _ => ⟨_, 0, rfl, by simp, fun i hi => ?_⟩⟩
  have : i = 0 ∨ i = 1 := by simp at hi; omega
  rcases this with rfl | rfl
  · exact ⟨a1, c1, by simp, h1.kept k⟩
  · exact ⟨a2, c2, by simp, h2.kept k⟩

end Go.Proofs.Ytmakdclgpeochaa
