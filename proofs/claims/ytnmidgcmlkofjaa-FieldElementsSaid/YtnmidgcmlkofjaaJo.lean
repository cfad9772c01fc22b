/- The arguments of the rows, opened: a field's description by value. No conditions. -/
import Derived.Test.YtnmidgcmlkofjaaRows
import Derived.Test.YtnmidgcmlkofjaaBase
import Derived.Test.YtnmidgcmlkofjaaSpec
import Derived.ProofKit
import Derived.Lib.SmallJoins
namespace Go.Proofs.Ytnmidgcmlkofjaa
open Go.ChangeShapes Go.WideShapes Go.ChangeAt Go.RowKit Go.Joins Cw

theorem Try.own : ownKnob Try.prog.godebug = none := by kernel_rfl
theorem Try.laidOut : laidOutB Try.prog = true := by kernel_rfl
theorem Try.cellsF : Try.prog.cellsOf 24 = 3 := by kernel_rfl
theorem Try.cellsI : Try.prog.cellsOf 3 = 1 := by kernel_rfl

theorem cell_some {w : World} {a : Addr} {v : Value} (h : w.cell? a = some v) : a.spot = none ∧ a.block < w.heap.size := by
  unfold World.cell? at h
  cases e : w.heap[a.block]? with
  | none => rw [e] at h; simp at h
  | some o =>
    have hlt : a.block < w.heap.size := by
      rcases Array.getElem?_eq_some_iff.1 e with ⟨h1, _⟩
      exact h1
    rw [e] at h
    cases o with
    | cells c t f =>
      cases e2 : a.spot with
      | none => exact ⟨rfl, hlt⟩
      | some k => simp [e2] at h
    | _ => simp at h

/-- A slice of integers that came in. -/
theorem sl_of_trod {H : Type} {enc : TypeId × Value → H} {W : World} {n : Nat} {v : Value} {y : DataW H × List MemPlace} (h : DataW.trod enc Try.prog W 0 (fun _ => true) true n 22 [v] = some y) : ∃ xs, Sl W v xs := by
  rcases open_ints Try.underlying22 Try.underlying3 Try.cellsI h with ⟨hcs, _⟩ | ⟨a, len, cap, zs, hcs, _, hl, hm, hz, _, hcell, _⟩
  · simp at hcs
    subst hcs
    exact ⟨[], none, 0, rfl, by simp, ⟨by unfold maxLen; omega, fun _ => rfl⟩, fun e => absurd rfl e⟩
  · simp at hcs
    subst hcs
    simp only [if_true] at hz
    have hlen : (zs.take len).length = len := by simp; omega
    refine ⟨zs.take len, some a, cap, by rw [hlen], by omega, ⟨hm, fun e => by cases e⟩, fun hne => ?_⟩
    have h0 : 0 < len := by
      rcases Nat.eq_zero_or_pos len with e | e
      · exact absurd (List.eq_nil_of_length_eq_zero (by rw [hlen, e])) hne
      · exact e
    obtain ⟨g1, g2⟩ := cell_some (hcell 0 (by omega))
    obtain ⟨b, off, s⟩ := a
    have g3 : s = none := g1
    subst g3
    refine ⟨b, off, rfl, g2, fun i hi => ?_⟩
    rw [hlen] at hi
    have := hcell i (by omega)
    rw [Addr.add_lit] at this
    rw [this]
    simp [List.getD, hi]

/-- A field's description that came in by value. -/
theorem field_in {H : Type} {enc : TypeId × Value → H} {W : World} {base : Nat} {v : Value} {d : DataW H} {p : List MemPlace} (hv : Value.okWide Try.prog W .any base 24 v) (h : DataW.Trod enc Try.prog W 0 (fun _ => true) true 24 v d p) :
    ∃ (P M : Int) (vm : Value) (mod : List Int), v = .agg #[.int .i64 P, .int .i64 M, vm] ∧ Sl W vm mod := by
  obtain ⟨c0, c1, c2, y0, y1, y2, m, rfl, rfl, rfl, hy0, hy1, hy2⟩ := open_agg3 Try.underlying24 (by kernel_rfl) Try.cellsF hv h
  obtain ⟨P, e0, _, wP⟩ := DataW.trod_int Try.underlying3 hy0
  obtain ⟨M, e1, _, wM⟩ := DataW.trod_int Try.underlying3 hy1
  simp at e0 e1
  subst e0 e1
  obtain ⟨mod, hs⟩ := sl_of_trod hy2
  exact ⟨P, M, c2, mod, rfl, hs⟩
end Go.Proofs.Ytnmidgcmlkofjaa
