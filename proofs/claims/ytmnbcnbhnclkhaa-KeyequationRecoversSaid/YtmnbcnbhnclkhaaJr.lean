/- Closed facts on the program, that every row needs. No conditions. -/
import Derived.Test.YtmnbcnbhnclkhaaJoA
namespace Go.Proofs.Ytmnbcnbhnclkhaa
open Go.ChangeShapes Go.WideShapes Go.ChangeAt Go.RowKit Go.Joins Cw

theorem band {a b : Bool} (h : a = true) (k : b = true) : (a && b) = true := by rw [h, k]; rfl
set_option maxHeartbeats 4000000
set_option maxRecDepth 100000
theorem Try.fLaid : laidOutB Try.pinned.checked.prog = true := by as_aux_lemma => kernel_rfl
theorem Try.fMaps : mapsRowed Try.pinned.checked.prog = true := by as_aux_lemma => kernel_rfl
theorem Try.fHeard : (Try.pinned.checked.prog).stopsHeard = true := by as_aux_lemma => kernel_rfl
theorem Try.fEnter : (Try.pinned.checked.prog).mayEnter = true := by as_aux_lemma => kernel_rfl
end Go.Proofs.Ytmnbcnbhnclkhaa
