/- The arguments of the rows, opened: an array of three slices of ints by value. No conditions. -/
import Derived.Test.YtmnbcnbhnclkhaaJoA
import Derived.Laws.IdiomArrays
namespace Go.Proofs.Ytmnbcnbhnclkhaa
open Go.ChangeShapes Go.WideShapes Go.ChangeAt Go.RowKit Go.Joins Cw
set_option maxRecDepth 100000

theorem Try.cellsV3 : Try.prog.cellsOf 43 = 3 := by kernel_rfl
theorem threes_in {H : Type} {enc : TypeId × Value → H} {W : World} {base : Nat} {v : Value} {d : DataW H} {p : List MemPlace} (hv : Value.okWide Try.prog W .any base 43 v) (h : DataW.Trod enc Try.prog W 0 (fun _ => true) true 43 v d p) :
    ∃ (v0 v1 v2 : Value) (l0 l1 l2 : List Int), v = .agg #[v0, v1, v2] ∧ Sl W v0 l0 ∧ Sl W v1 l1 ∧ Sl W v2 l2 := by
  have h2 := hv
  simp only [Value.okWide, Try.underlying43] at h2
  obtain ⟨cs, rfl, h3, _⟩ := h2
  rw [Try.cellsV3] at h3
  obtain ⟨c0, c1, c2, rfl⟩ := array3 h3
  obtain ⟨fuel, hf⟩ := h
  obtain ⟨y0, y1, y2, n, _, hy0, hy1, hy2⟩ := trod_array3 Try.underlying43 Try.cellsL (by simpa [Value.cells] using hf)
  obtain ⟨l0, s0⟩ := sl_of_trod hy0
  obtain ⟨l1, s1⟩ := sl_of_trod hy1
  obtain ⟨l2, s2⟩ := sl_of_trod hy2
  exact ⟨c0, c1, c2, l0, l1, l2, rfl, s0, s1, s2⟩
end Go.Proofs.Ytmnbcnbhnclkhaa
