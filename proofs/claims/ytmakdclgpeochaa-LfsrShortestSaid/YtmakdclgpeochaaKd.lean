/- The walk of DivMod of polynomials. Conditions: the field lies in memory with its tables; lengths are bounded. -/
import Derived.Test.YtmakdclgpeochaaKc
import Derived.Test.YtmakdclgpeochaaMqA
namespace Go.Proofs.Ytmakdclgpeochaa
open Go.RowKit Cw

/-- What a division hands back. -/
def DivOut (G : GFd) (t : Tabs G) (P Q : PS (Rs t.fs.mon)) (n : Nat) (w : World) (e : Ending) (w' : World) : Prop :=
  ∃ vu vr lu lr, e = .returned (.tuple #[vu, vr, .int .i64 0]) ∧ Own w' w.heap.size vu lu ∧ Own w' w.heap.size vr lr ∧ Kept w w' ∧ Cano G lu ∧ Cano G lr ∧ P = t.po lu * Q + t.po lr ∧ (∀ d, PS.dl Q (d + 1) → lr.length ≤ d) ∧ lu.length ≤ n ∧ lr.length ≤ n

theorem div_fin {G : GFd} (t : Tabs G) {l1 l2 us rs : List Int} {P Q : PS (Rs t.fs.mon)} {n nu nr : Nat} (c2 : Cano G l2) (h2 : l2 ≠ []) (hP : t.po l1 = P) (hQ : t.po l2 = Q) (hn : l1.length ≤ n) (k : DvS t l1 l2 us rs (l1.length + 1 - l2.length))
    (hu : nu ≤ us.length ∧ (∀ i, nu ≤ i → us.getD i 0 = 0) ∧ (nu = 0 ∨ us.getD (nu - 1) 0 ≠ 0)) (hr : nr ≤ rs.length ∧ (∀ i, nr ≤ i → rs.getD i 0 = 0) ∧ (nr = 0 ∨ rs.getD (nr - 1) 0 ≠ 0)) :
    Cano G (us.take nu) ∧ Cano G (rs.take nr) ∧ P = t.po (us.take nu) * Q + t.po (rs.take nr) ∧ (∀ d, PS.dl Q (d + 1) → (rs.take nr).length ≤ d) ∧ (us.take nu).length ≤ n ∧ (rs.take nr).length ≤ n := by
  obtain ⟨e1, e2⟩ := t.dv_end h2 k
  have hz2 : 0 < l2.length := List.length_pos_iff.2 h2
  have h5 := k.ul
  have h6 := k.rl
  have hnr : nr ≤ l2.length - 1 := by
    rcases hr.2.2 with e | e
    · omega
    · rcases Nat.lt_or_ge (l2.length - 1) nr with g | g
      · exact absurd (e2 (nr - 1) (by omega)) e
      · exact g
  refine ⟨can_of k.ur hu, can_of k.rr hr, ?_, fun d hd => ?_, ?_, ?_⟩
  · rw [t.po_take hu.2.1, t.po_take hr.2.1, ← hP, ← hQ]; exact e1
  · rw [← hQ] at hd
    have := (t.can_len c2).1 hd
    rw [List.length_take]; omega
  · rw [List.length_take]; omega
  · rw [List.length_take]; omega

end Go.Proofs.Ytmakdclgpeochaa
