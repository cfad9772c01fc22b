/- The walk of the laws' alive (chapter 05). No conditions. -/
import Derived.Test.YtmakdclgpeochaaNa
import Derived.Test.YtmakdclgpeochaaMqA
import Derived.Test.YtmakdclgpeochaaKw
import Derived.Test.YtmakdclgpeochaaSd
namespace Go.Proofs.Ytmakdclgpeochaa
open Go.RowKit Cw

theorem can5 {G : GFd} (hq : G.q = 5) : Cano G [1, 2, 1] ∧ Cano G [3] ∧ Cano G [3, 1] := by
  refine ⟨⟨fun x hx => ?_, fun _ => by simp⟩, ⟨fun x hx => ?_, fun _ => by simp⟩, ⟨fun x hx => ?_, fun _ => by simp⟩⟩ <;> simp at hx <;> omega
theorem can2 {G : GFd} (hq : G.q = 2) : Cano G [1, 0, 0, 1] := by
  refine ⟨fun x hx => ?_, fun _ => by simp⟩
  simp at hx; omega
/-- The quotient and the remainder of the example. -/
theorem div5 {G : GFd} (t : Tabs G) (h1 : G.P = 5) (h2 : G.M = 1) (h3 : G.mod = []) {lu lr : List Int} (hu : Cano G lu) (hr : Cano G lr) (h : t.po [1, 2, 0, 1] = t.po lu * t.po [3, 1] + t.po lr) (hd : ∀ d, PS.dl (t.po [3, 1]) (d + 1) → lr.length ≤ d) :
    lu = [1, 2, 1] ∧ lr = [3] := by
  obtain ⟨e, hq⟩ := ex5 t h1 h2 h3
  obtain ⟨c1, c2, c3⟩ := can5 hq
  have hl : PS.dl (t.po [3, 1]) (1 + 1) := t.po_dl [3, 1]
  have h0 : t.po [3, 1] 1 ≠ 0 := t.can_top c3 (by simp)
  have hlr := hd 1 hl
  obtain ⟨a1, a2⟩ := PS.div_unique hl h0 (t.po_dl lu) (t.po_dl [1, 2, 1]) (t.po_dl' hlr) (t.po_dl' (l := [3]) (n := 1) (by simp)) (h.symm.trans e)
  exact ⟨t.can_inj hu c1 a1, t.can_inj hr c2 a2⟩
theorem mul2 {G : GFd} (t : Tabs G) (h1 : G.P = 2) (h2 : G.M = 1) (h3 : G.mod = []) {l : List Int} (hl : Cano G l) (h : t.po l = prF t [[1, 1, 1], [1, 1]] 2) : l = [1, 0, 0, 1] := by
  obtain ⟨e, hq⟩ := ex2 t h1 h2 h3
  refine t.can_inj hl (can2 hq) ?_
  rw [h, e]
  show 1 * t.po [1, 1, 1] * t.po [1, 1] = _
  rw [Rg.one_mul]
end Go.Proofs.Ytmakdclgpeochaa
