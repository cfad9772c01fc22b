/- The walk of the product of many polynomials, and of Degree. Conditions: the field lies in memory with its tables; lengths are bounded. -/
import Derived.Test.YtmakdclgpeochaaKd
namespace Go.Proofs.Ytmakdclgpeochaa
open Go.RowKit Cw

/-- The value v is a slice of slices that reads as ls. -/
def SlL (w : World) (v : Value) (ls : List (List Int)) : Prop :=
  ∃ (a : Option Addr) (cap : Nat), v = .slice a ls.length cap ∧ ls.length ≤ cap ∧ cap ≤ maxLen ∧
    (ls ≠ [] → ∃ b off, a = some ⟨b, off, none⟩ ∧ b < w.heap.size ∧ ∀ i, i < ls.length → ∃ a' c, w.cell? ⟨b, off + i, none⟩ = some (.slice a' (ls.getD i []).length c) ∧ Sl w (.slice a' (ls.getD i []).length c) (ls.getD i []))
theorem SlL.kept {w w' : World} {v : Value} {ls : List (List Int)} (h : SlL w v ls) (k : Kept w w') : SlL w' v ls := by
  obtain ⟨a, cap, h1, h2, h3, h4⟩ := h
  refine ⟨a, cap, h1, h2, h3, fun hx => ?_⟩
  obtain ⟨b, off, e, hb, hc⟩ := h4 hx
  exact ⟨b, off, e, k.lt hb, fun i hi => by
    obtain ⟨a', c, g1, g2⟩ := hc i hi
    exact ⟨a', c, (Kept.cell' k hb).trans g1, g2.kept k⟩⟩

/-- The product of the first k polynomials. -/
noncomputable def prF {G : GFd} (t : Tabs G) (ls : List (List Int)) : Nat → PS (Rs t.fs.mon)
  | 0 => 1
  | k + 1 => prF t ls k * t.po (ls.getD k [])

theorem own_one {w : World} {B : Nat} {x : Int} (hB : B ≤ w.heap.size) : Own (w.alloc (.cells #[.int .i64 x] 3)) B (.slice (some ⟨w.heap.size, 0, none⟩) 1 1) [x] := by
  have h0 := World.ownsRow_lit (size := 1) (e := 3) (base := B) w #[.int .i64 x] 1 hB (by unfold maxLen; omega) rfl
  unfold Own; simpa using h0
theorem cano_one {G : GFd} (t : Tabs G) : Cano G [1] := by
  have := t.qb
  exact ⟨fun x hx => by rw [List.mem_singleton.1 hx]; omega, fun _ => by simp⟩

end Go.Proofs.Ytmakdclgpeochaa
