/- The arguments of the rows, opened: a field's description by value. No conditions. The arguments of the rows, opened: an int with its range, a slice of ints. No conditions. The arguments of the rows, opened: an array of two slices of ints by value. No conditions. Closed facts on the program, that every row needs. No conditions. -/
import Derived.Test.YtmakdclgpeochaaRows
import Derived.Test.YtmakdclgpeochaaBaA
import Derived.Test.YtmakdclgpeochaaSpA
import Derived.ProofKit
import Derived.Lib.SmallJoins
namespace Go.Proofs.Ytmakdclgpeochaa
open Go.ChangeShapes Go.WideShapes Go.ChangeAt Go.RowKit Go.Joins Cw
set_option maxRecDepth 100000

theorem Try.own : ownKnob Try.prog.godebug = none := by kernel_rfl
theorem Try.laidOut : laidOutB Try.prog = true := by kernel_rfl
theorem Try.cellsF : Try.prog.cellsOf 24 = 3 := by kernel_rfl
theorem Try.cellsI : Try.prog.cellsOf 3 = 1 := by kernel_rfl

theorem cell_some {w : World} {a : Addr} {v : Value} (h : w.cell? a = some v) : a.spot = none ∧ a.block < w.heap.size := by
  unfold World.cell? at h
  cases e : w.heap[a.block]? with
  | none => rw [e] at h; simp at h
  | some o =>
    have hlt : a.block < w.heap.size := by
      rcases Array.getElem?_eq_some_iff.1 e with ⟨h1, _⟩
      exact h1
    rw [e] at h
    cases o with
    | cells c t f =>
      cases e2 : a.spot with
      | none => exact ⟨rfl, hlt⟩
      | some k => simp [e2] at h
    | _ => simp at h

/-- A slice of integers that came in. -/
theorem sl_of_trod {H : Type} {enc : TypeId × Value → H} {W : World} {n : Nat} {v : Value} {y : DataW H × List MemPlace} (h : DataW.trod enc Try.prog W 0 (fun _ => true) true n 22 [v] = some y) : ∃ xs, Sl W v xs := by
  rcases open_ints Try.underlying22 Try.underlying3 Try.cellsI h with ⟨hcs, _⟩ | ⟨a, len, cap, zs, hcs, _, hl, hm, hz, _, hcell, _⟩
  · simp at hcs
    subst hcs
    exact ⟨[], none, 0, rfl, by simp, ⟨by unfold maxLen; omega, fun _ => rfl⟩, fun e => absurd rfl e⟩
  · simp at hcs
    subst hcs
    simp only [if_true] at hz
    have hlen : (zs.take len).length = len := by simp; omega
    refine ⟨zs.take len, some a, cap, by rw [hlen], by omega, ⟨hm, fun e => by cases e⟩, fun hne => ?_⟩
    have h0 : 0 < len := by
      rcases Nat.eq_zero_or_pos len with e | e
      · exact absurd (List.eq_nil_of_length_eq_zero (by rw [hlen, e])) hne
      · exact e
    obtain ⟨g1, g2⟩ := cell_some (hcell 0 (by omega))
    obtain ⟨b, off, s⟩ := a
    have g3 : s = none := g1
    subst g3
    refine ⟨b, off, rfl, g2, fun i hi => ?_⟩
    rw [hlen] at hi
    have := hcell i (by omega)
    rw [Addr.add_lit] at this
    rw [this]
    simp [List.getD, hi]

/-- A field's description that came in by value. -/
theorem field_in {H : Type} {enc : TypeId × Value → H} {W : World} {base : Nat} {v : Value} {d : DataW H} {p : List MemPlace} (hv : Value.okWide Try.prog W .any base 24 v) (h : DataW.Trod enc Try.prog W 0 (fun _ => true) true 24 v d p) :
    ∃ (P M : Int) (vm : Value) (mod : List Int), v = .agg #[.int .i64 P, .int .i64 M, vm] ∧ Sl W vm mod := by
  obtain ⟨c0, c1, c2, y0, y1, y2, m, rfl, rfl, rfl, hy0, hy1, hy2⟩ := open_agg3 Try.underlying24 (by kernel_rfl) Try.cellsF hv h
  obtain ⟨P, e0, _, wP⟩ := DataW.trod_int Try.underlying3 hy0
  obtain ⟨M, e1, _, wM⟩ := DataW.trod_int Try.underlying3 hy1
  simp at e0 e1
  subst e0 e1
  obtain ⟨mod, hs⟩ := sl_of_trod hy2
  exact ⟨P, M, c2, mod, rfl, hs⟩
end Go.Proofs.Ytmakdclgpeochaa
namespace Go.Proofs.Ytmakdclgpeochaa
open Go.ChangeShapes Go.WideShapes Go.ChangeAt Go.RowKit Go.Joins Cw
set_option maxRecDepth 100000

theorem wf_i64 {n : Int} (h : (Lit.int .i64 n).wf = true) : -9223372036854775808 ≤ n ∧ n ≤ 9223372036854775807 := by
  have h1 : IntKind.i64.min = -9223372036854775808 := by decide
  have h2 : IntKind.i64.max = 9223372036854775807 := by decide
  have h' : (decide (IntKind.i64.min ≤ n) && decide (n ≤ IntKind.i64.max)) = true := h
  rw [h1, h2] at h'
  simpa using h'
theorem int_in {H : Type} {enc : TypeId × Value → H} {W : World} {base : Nat} {v : Value} {d : DataW H} {p : List MemPlace} (hv : Value.okWide Try.prog W .any base 3 v) (h : DataW.Trod enc Try.prog W 0 (fun _ => true) true 3 v d p) :
    ∃ x : Int, v = .int .i64 x ∧ -9223372036854775808 ≤ x ∧ x ≤ 9223372036854775807 := by
  obtain ⟨n, rfl⟩ := okWide_int Try.underlying3 hv
  obtain ⟨fuel, hf⟩ := h
  obtain ⟨x, e0, _, w0⟩ := DataW.trod_int Try.underlying3 hf
  have hb := wf_i64 w0
  simp [Value.cells] at e0
  subst e0
  exact ⟨n, rfl, hb⟩
theorem ints_in {H : Type} {enc : TypeId × Value → H} {W : World} {base : Nat} {v : Value} {d : DataW H} {p : List MemPlace} (hv : Value.okWide Try.prog W .any base 22 v) (h : DataW.Trod enc Try.prog W 0 (fun _ => true) true 22 v d p) :
    ∃ xs, Sl W v xs := by
  obtain ⟨a, len, cap, rfl⟩ := okWide_slice Try.underlying22 hv
  obtain ⟨fuel, hf⟩ := h
  exact sl_of_trod (n := fuel) (y := (d, p)) (enc := enc) (by simpa [Value.cells] using hf)
end Go.Proofs.Ytmakdclgpeochaa
namespace Go.Proofs.Ytmakdclgpeochaa
open Go.ChangeShapes Go.WideShapes Go.ChangeAt Go.RowKit Go.Joins Cw
set_option maxRecDepth 100000

theorem trod_array2 {H : Type} {enc : TypeId × Value → H} {P : Program} {w : World} {base : Nat} {spare : Nat → Bool} {held : Bool} {t e : TypeId} {fuel : Nat} {c0 c1 : Value} {x : DataW H × List MemPlace} (ht : P.underlying t = some (.array 2 e)) (hce : P.cellsOf e = 1)
    (h : DataW.trod enc P w base spare held fuel t [c0, c1] = some x) :
    ∃ y0 y1 n, x = (.agg [y0.1, y1.1], y0.2 ++ y1.2) ∧ DataW.trod enc P w base spare held n e [c0] = some y0 ∧ DataW.trod enc P w base spare held n e [c1] = some y1 := by
  cases fuel with
  | zero => simp [DataW.trod] at h
  | succ n =>
    unfold DataW.trod at h
    rw [ht] at h
    have r2 : List.range 2 = [0, 1] := rfl
    simp [r2, hce] at h
    obtain ⟨_, h⟩ := h
    cases h0 : DataW.trod enc P w base spare held n e [c0] with
    | none => simp [h0] at h
    | some y0 =>
      cases h1 : DataW.trod enc P w base spare held n e [c1] with
      | none => simp [h0, h1] at h
      | some y1 =>
        simp [h0, h1] at h
        exact ⟨y0, y1, n, h.symm, h0, h1⟩
theorem Try.cellsV2 : Try.prog.cellsOf 36 = 2 := by kernel_rfl
theorem Try.cellsL : Try.prog.cellsOf 22 = 1 := by kernel_rfl
theorem two_in {H : Type} {enc : TypeId × Value → H} {W : World} {base : Nat} {v : Value} {d : DataW H} {p : List MemPlace} (hv : Value.okWide Try.prog W .any base 36 v) (h : DataW.Trod enc Try.prog W 0 (fun _ => true) true 36 v d p) :
    ∃ (v0 v1 : Value) (l0 l1 : List Int), v = .agg #[v0, v1] ∧ Sl W v0 l0 ∧ Sl W v1 l1 := by
  have h2 := hv
  simp only [Value.okWide, Try.underlying36] at h2
  obtain ⟨cs, rfl, h3, _⟩ := h2
  rw [Try.cellsV2] at h3
  obtain ⟨c0, c1, rfl⟩ := array2 h3
  obtain ⟨fuel, hf⟩ := h
  obtain ⟨y0, y1, n, _, hy0, hy1⟩ := trod_array2 Try.underlying36 Try.cellsL (by simpa [Value.cells] using hf)
  obtain ⟨l0, s0⟩ := sl_of_trod hy0
  obtain ⟨l1, s1⟩ := sl_of_trod hy1
  exact ⟨c0, c1, l0, l1, rfl, s0, s1⟩
end Go.Proofs.Ytmakdclgpeochaa
namespace Go.Proofs.Ytmakdclgpeochaa
open Go.ChangeShapes Go.WideShapes Go.ChangeAt Go.RowKit Go.Joins Cw

theorem band {a b : Bool} (h : a = true) (k : b = true) : (a && b) = true := by rw [h, k]; rfl
set_option maxHeartbeats 4000000
set_option maxRecDepth 100000
theorem Try.fLaid : laidOutB Try.pinned.checked.prog = true := by as_aux_lemma => kernel_rfl
theorem Try.fMaps : mapsRowed Try.pinned.checked.prog = true := by as_aux_lemma => kernel_rfl
theorem Try.fHeard : (Try.pinned.checked.prog).stopsHeard = true := by as_aux_lemma => kernel_rfl
theorem Try.fEnter : (Try.pinned.checked.prog).mayEnter = true := by as_aux_lemma => kernel_rfl
end Go.Proofs.Ytmakdclgpeochaa
