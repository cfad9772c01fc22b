/- The arguments of the rows, opened: an array of two slices of ints by value. No conditions. -/
import Derived.Test.YtnmidgcmlkofjaaJp
namespace Go.Proofs.Ytnmidgcmlkofjaa
open Go.ChangeShapes Go.WideShapes Go.ChangeAt Go.RowKit Go.Joins Cw

theorem trod_array2 {H : Type} {enc : TypeId × Value → H} {P : Program} {w : World} {base : Nat} {spare : Nat → Bool} {held : Bool} {t e : TypeId} {fuel : Nat} {c0 c1 : Value} {x : DataW H × List MemPlace} (ht : P.underlying t = some (.array 2 e)) (hce : P.cellsOf e = 1)
    (h : DataW.trod enc P w base spare held fuel t [c0, c1] = some x) :
    ∃ y0 y1 n, x = (.agg [y0.1, y1.1], y0.2 ++ y1.2) ∧ DataW.trod enc P w base spare held n e [c0] = some y0 ∧ DataW.trod enc P w base spare held n e [c1] = some y1 := by
  cases fuel with
  | zero => simp [DataW.trod] at h
  | succ n =>
    unfold DataW.trod at h
    rw [ht] at h
    have r2 : List.range 2 = [0, 1] := rfl
    simp [r2, hce] at h
    obtain ⟨_, h⟩ := h
    cases h0 : DataW.trod enc P w base spare held n e [c0] with
    | none => simp [h0] at h
    | some y0 =>
      cases h1 : DataW.trod enc P w base spare held n e [c1] with
      | none => simp [h0, h1] at h
      | some y1 =>
        simp [h0, h1] at h
        exact ⟨y0, y1, n, h.symm, h0, h1⟩
theorem Try.cellsV2 : Try.prog.cellsOf 60 = 2 := by kernel_rfl
theorem Try.cellsL : Try.prog.cellsOf 22 = 1 := by kernel_rfl
theorem two_in {H : Type} {enc : TypeId × Value → H} {W : World} {base : Nat} {v : Value} {d : DataW H} {p : List MemPlace} (hv : Value.okWide Try.prog W .any base 60 v) (h : DataW.Trod enc Try.prog W 0 (fun _ => true) true 60 v d p) :
    ∃ (v0 v1 : Value) (l0 l1 : List Int), v = .agg #[v0, v1] ∧ Sl W v0 l0 ∧ Sl W v1 l1 := by
  have h2 := hv
  simp only [Value.okWide, Try.underlying60] at h2
  obtain ⟨cs, rfl, h3, _⟩ := h2
  rw [Try.cellsV2] at h3
  obtain ⟨c0, c1, rfl⟩ := array2 h3
  obtain ⟨fuel, hf⟩ := h
  obtain ⟨y0, y1, n, _, hy0, hy1⟩ := trod_array2 Try.underlying60 Try.cellsL (by simpa [Value.cells] using hf)
  obtain ⟨l0, s0⟩ := sl_of_trod hy0
  obtain ⟨l1, s1⟩ := sl_of_trod hy1
  exact ⟨c0, c1, l0, l1, rfl, s0, s1⟩
end Go.Proofs.Ytnmidgcmlkofjaa
