/- The arguments of the rows, opened: a slice of slices of ints. No conditions. -/
import Derived.Test.YtjoednmoginhpaaJoA
import Derived.Test.YtjoednmoginhpaaKe
import Derived.Deep.Matrix
namespace Go.Proofs.Ytjoednmoginhpaa
open Go.ChangeShapes Go.WideShapes Go.ChangeAt Go.RowKit Go.Joins Cw

theorem take_getD (l : List Int) (k i : Nat) (h : i < k) : (l.take k).getD i 0 = l.getD i 0 := by
  simp [List.getD, h]
theorem lists_in {H : Type} {enc : TypeId × Value → H} {W : World} {base : Nat} {v : Value} {d : DataW H} {p : List MemPlace} (hv : Value.okWide Try.prog W .any base 40 v) (h : DataW.Trod enc Try.prog W 0 (fun _ => true) true 40 v d p) :
    ∃ (ls : List (List Int)), SlL W v ls := by
  obtain ⟨a0, len0, cap0, rfl⟩ := okWide_slice Try.underlying40 hv
  obtain ⟨fuel, hf⟩ := h
  rcases Go.Deep.open_int_rows Try.underlying40 Try.underlying22 Try.underlying3 Try.cellsL Try.cellsI hf with ⟨hcs, _⟩ | ⟨a, len, cap, A, L, C, Z, hcs, _, hl, hm, _, hrow⟩
  · simp [Value.cells] at hcs
    obtain ⟨rfl, rfl, rfl⟩ := hcs
    exact ⟨[], none, 0, rfl, by simp, by unfold maxLen; omega, fun e => absurd rfl e⟩
  · simp [Value.cells] at hcs
    obtain ⟨rfl, rfl, rfl⟩ := hcs
    obtain ⟨len, hlen0⟩ : ∃ x, x = len0 := ⟨_, rfl⟩
    obtain ⟨cap, hcap0⟩ : ∃ x, x = cap0 := ⟨_, rfl⟩
    subst hcap0
    subst hlen0
    obtain ⟨ls, hls⟩ : ∃ ls : List (List Int), ls = (List.range len).map fun r => (Z r).take (L r) := ⟨_, rfl⟩
    have hlen : ls.length = len := by rw [hls]; simp
    have hget : ∀ i, i < len → ls.getD i [] = (Z i).take (L i) := fun i hi => by
      rw [hls]; simp [List.getD, hi]
    refine ⟨ls, some a, cap, by rw [hlen], by omega, hm, fun hne => ?_⟩
    have h0 : 0 < len := by
      rcases Nat.eq_zero_or_pos len with e | e
      · exact absurd (List.eq_nil_of_length_eq_zero (by rw [hlen, e])) hne
      · exact e
    obtain ⟨g1, g2⟩ := cell_some (hrow 0 (by omega)).1
    obtain ⟨b, off, s⟩ := a
    have g3 : s = none := g1
    subst g3
    refine ⟨b, off, rfl, g2, fun i hi => ?_⟩
    rw [hlen] at hi
    obtain ⟨r1, r2, r3, r4, _, r6, r7⟩ := hrow i (by omega)
    have hli : (ls.getD i []).length = L i := by rw [hget i hi]; simp; omega
    rw [Addr.add_lit] at r1
    refine ⟨A i, C i, by rw [hli]; exact r1, A i, C i, rfl, by rw [hli]; exact r2, ⟨r3, r6⟩, fun hne' => ?_⟩
    have hp : 0 < L i := by
      rcases Nat.eq_zero_or_pos (L i) with e | e
      · exact absurd (List.eq_nil_of_length_eq_zero (by rw [hli, e])) hne'
      · exact e
    cases hA : A i with
    | none => have := r6 hA; omega
    | some a' =>
      obtain ⟨_, hc⟩ := r7 a' hA
      obtain ⟨q1, q2⟩ := cell_some (hc 0 (by omega))
      obtain ⟨b', off', s'⟩ := a'
      have q3 : s' = none := q1
      subst q3
      refine ⟨b', off', rfl, q2, fun j hj => ?_⟩
      rw [hli] at hj
      have := hc j (by omega)
      rw [Addr.add_lit] at this
      rw [this, hget i hi, take_getD _ _ _ hj]
end Go.Proofs.Ytjoednmoginhpaa
