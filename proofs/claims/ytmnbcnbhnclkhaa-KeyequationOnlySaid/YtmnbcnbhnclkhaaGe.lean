/- The walks of MulOrder, Digits, FromDigits, Field. Conditions: the field lies in memory with its tables. -/
import Derived.Test.YtmnbcnbhnclkhaaGc
import Derived.Test.YtmnbcnbhnclkhaaMiA
import Derived.Test.YtmnbcnbhnclkhaaBaA
import Derived.Deep.RegionHeld3
namespace Go.Proofs.Ytmnbcnbhnclkhaa
open Go.RowKit Cw

theorem ret_tup {k : IntKind} {a b : Int} {v : Value} (h : a = b) : Ending.returned (.tuple #[.int k a, v]) = .returned (.tuple #[.int k b, v]) := by rw [h]

theorem sl_len {w : World} {v : Value} {l : List Int} (h : Sl w v l) : ∃ a cap, v = .slice a l.length cap ∧ l.length ≤ cap ∧ cap ≤ maxLen := by
  obtain ⟨a, cap, h1, h2, ⟨h3, _⟩, _⟩ := h
  exact ⟨a, cap, h1, h2, h3⟩
theorem gf_cells {w : World} {b : Nat} {G : GFd} {m : Nat} (h : IsGF w b G) (hm : G.M = m) : w.cell? ⟨b, 0, none⟩ = some (.int .i64 G.P) ∧ w.cell? ⟨b, 1, none⟩ = some (.int .i64 m) ∧ w.cell? ⟨b, 3, none⟩ = some (.int .i64 G.q) := by
  refine ⟨h.hP, ?_, h.hq⟩
  rw [h.hM, hm]
end Go.Proofs.Ytmnbcnbhnclkhaa
