/- The arguments of the rows, opened: an array of three slices of ints by value. No conditions. The arguments of the rows, opened: an array of two ints by value, with their ranges. No conditions. The arguments of the rows, opened: an array of four slices of ints by value. No conditions. -/
import Derived.Test.YtmnbcnbhnclkhaaJoA
import Derived.Laws.IdiomArrays
namespace Go.Proofs.Ytmnbcnbhnclkhaa
open Go.ChangeShapes Go.WideShapes Go.ChangeAt Go.RowKit Go.Joins Cw
set_option maxRecDepth 100000

theorem Try.cellsV3 : Try.prog.cellsOf 43 = 3 := by kernel_rfl
theorem threes_in {H : Type} {enc : TypeId × Value → H} {W : World} {base : Nat} {v : Value} {d : DataW H} {p : List MemPlace} (hv : Value.okWide Try.prog W .any base 43 v) (h : DataW.Trod enc Try.prog W 0 (fun _ => true) true 43 v d p) :
    ∃ (v0 v1 v2 : Value) (l0 l1 l2 : List Int), v = .agg #[v0, v1, v2] ∧ Sl W v0 l0 ∧ Sl W v1 l1 ∧ Sl W v2 l2 := by
  have h2 := hv
  simp only [Value.okWide, Try.underlying43] at h2
  obtain ⟨cs, rfl, h3, _⟩ := h2
  rw [Try.cellsV3] at h3
  obtain ⟨c0, c1, c2, rfl⟩ := array3 h3
  obtain ⟨fuel, hf⟩ := h
  obtain ⟨y0, y1, y2, n, _, hy0, hy1, hy2⟩ := trod_array3 Try.underlying43 Try.cellsL (by simpa [Value.cells] using hf)
  obtain ⟨l0, s0⟩ := sl_of_trod hy0
  obtain ⟨l1, s1⟩ := sl_of_trod hy1
  obtain ⟨l2, s2⟩ := sl_of_trod hy2
  exact ⟨c0, c1, c2, l0, l1, l2, rfl, s0, s1, s2⟩
end Go.Proofs.Ytmnbcnbhnclkhaa
namespace Go.Proofs.Ytmnbcnbhnclkhaa
open Go.ChangeShapes Go.WideShapes Go.ChangeAt Go.RowKit Go.Joins Cw
set_option maxRecDepth 100000

theorem Try.cellsI2 : Try.prog.cellsOf 36 = 2 := by kernel_rfl
theorem twoint_in {H : Type} {enc : TypeId × Value → H} {W : World} {base : Nat} {v : Value} {d : DataW H} {p : List MemPlace} (hv : Value.okWide Try.prog W .any base 36 v) (h : DataW.Trod enc Try.prog W 0 (fun _ => true) true 36 v d p) :
    ∃ x y : Int, v = .agg #[.int .i64 x, .int .i64 y] ∧ (-9223372036854775808 ≤ x ∧ x ≤ 9223372036854775807) ∧ (-9223372036854775808 ≤ y ∧ y ≤ 9223372036854775807) := by
  have h2 := hv
  simp only [Value.okWide, Try.underlying36] at h2
  obtain ⟨cs, rfl, h3, _⟩ := h2
  rw [Try.cellsI2] at h3
  obtain ⟨c0, c1, rfl⟩ := array2 h3
  obtain ⟨fuel, hf⟩ := h
  obtain ⟨y0, y1, n, _, hy0, hy1⟩ := trod_array2 Try.underlying36 Try.cellsI (by simpa [Value.cells] using hf)
  obtain ⟨x0, e0, _, w0⟩ := DataW.trod_int Try.underlying3 hy0
  obtain ⟨x1, e1, _, w1⟩ := DataW.trod_int Try.underlying3 hy1
  simp at e0 e1
  subst e0 e1
  exact ⟨_, _, rfl, wf_i64 w0, wf_i64 w1⟩
end Go.Proofs.Ytmnbcnbhnclkhaa
namespace Go.Proofs.Ytmnbcnbhnclkhaa
open Go.ChangeShapes Go.WideShapes Go.ChangeAt Go.RowKit Go.Joins Cw
set_option maxRecDepth 100000

theorem trod_array4 {H : Type} {enc : TypeId × Value → H} {P : Program} {w : World} {base : Nat} {spare : Nat → Bool} {held : Bool} {t e : TypeId} {fuel : Nat} {c0 c1 c2 c3 : Value} {x : DataW H × List MemPlace} (ht : P.underlying t = some (.array 4 e)) (hce : P.cellsOf e = 1)
    (h : DataW.trod enc P w base spare held fuel t [c0, c1, c2, c3] = some x) :
    ∃ y0 y1 y2 y3 n, DataW.trod enc P w base spare held n e [c0] = some y0 ∧ DataW.trod enc P w base spare held n e [c1] = some y1 ∧ DataW.trod enc P w base spare held n e [c2] = some y2 ∧ DataW.trod enc P w base spare held n e [c3] = some y3 := by
  cases fuel with
  | zero => simp [DataW.trod] at h
  | succ n =>
    unfold DataW.trod at h
    rw [ht] at h
    have r4 : List.range 4 = [0, 1, 2, 3] := rfl
    simp [r4, hce] at h
    obtain ⟨_, h⟩ := h
    cases h0 : DataW.trod enc P w base spare held n e [c0] with
    | none => simp [h0] at h
    | some y0 =>
      cases h1 : DataW.trod enc P w base spare held n e [c1] with
      | none => simp [h0, h1] at h
      | some y1 =>
        cases h2 : DataW.trod enc P w base spare held n e [c2] with
        | none => simp [h0, h1, h2] at h
        | some y2 =>
          cases h3 : DataW.trod enc P w base spare held n e [c3] with
          | none => simp [h0, h1, h2, h3] at h
          | some y3 => exact ⟨y0, y1, y2, y3, n, h0, h1, h2, h3⟩
theorem Try.cellsV4 : Try.prog.cellsOf 51 = 4 := by kernel_rfl
theorem fours_in {H : Type} {enc : TypeId × Value → H} {W : World} {base : Nat} {v : Value} {d : DataW H} {p : List MemPlace} (hv : Value.okWide Try.prog W .any base 51 v) (h : DataW.Trod enc Try.prog W 0 (fun _ => true) true 51 v d p) :
    ∃ (v0 v1 v2 v3 : Value) (l0 l1 l2 l3 : List Int), v = .agg #[v0, v1, v2, v3] ∧ Sl W v0 l0 ∧ Sl W v1 l1 ∧ Sl W v2 l2 ∧ Sl W v3 l3 := by
  have h2 := hv
  simp only [Value.okWide, Try.underlying51] at h2
  obtain ⟨cs, rfl, h3, _⟩ := h2
  rw [Try.cellsV4] at h3
  obtain ⟨c0, c1, c2, c3, rfl⟩ := array4 h3
  obtain ⟨fuel, hf⟩ := h
  obtain ⟨y0, y1, y2, y3, n, hy0, hy1, hy2, hy3⟩ := trod_array4 Try.underlying51 Try.cellsL (by simpa [Value.cells] using hf)
  obtain ⟨l0, s0⟩ := sl_of_trod hy0
  obtain ⟨l1, s1⟩ := sl_of_trod hy1
  obtain ⟨l2, s2⟩ := sl_of_trod hy2
  obtain ⟨l3, s3⟩ := sl_of_trod hy3
  exact ⟨c0, c1, c2, c3, l0, l1, l2, l3, rfl, s0, s1, s2, s3⟩
end Go.Proofs.Ytmnbcnbhnclkhaa
