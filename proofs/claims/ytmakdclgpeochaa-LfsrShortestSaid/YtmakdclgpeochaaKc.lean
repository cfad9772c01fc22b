/- The walk of the product of two polynomials. Conditions: the field lies in memory with its tables; lengths are bounded. -/
import Derived.Test.YtmakdclgpeochaaKb
import Derived.Deep.RegionLawGrows
namespace Go.Proofs.Ytmakdclgpeochaa
open Go.RowKit Cw

theorem mul4 {α : Type} [Rg α] (a b c d : α) : a * b * (c * d) = a * c * (b * d) := by ac_rfl
theorem po_step {G : GFd} (t : Tabs G) {us l1 l2 : List Int} {k j : Nat} {x y u : Int} (h : k + j < us.length) (hx : x = l1.getD k 0) (hy : y = l2.getD j 0) (hu : u = us.getD (k + j) 0)
    (hup : t.po us = Rg.sm k (fun i => PS.C (t.po l1 i) * PS.X i) * t.po l2 + PS.C (t.po l1 k) * PS.X k * Rg.sm j (fun i => PS.C (t.po l2 i) * PS.X i)) :
    t.po (us.set (k + j) (addG G u (mulG G x y))) = Rg.sm k (fun i => PS.C (t.po l1 i) * PS.X i) * t.po l2 + PS.C (t.po l1 k) * PS.X k * Rg.sm (j + 1) (fun i => PS.C (t.po l2 i) * PS.X i) := by
  rw [hu, t.po_addmul h, hup]
  have e : PS.C (t.e x * t.e y) * PS.X (k + j) = PS.C (t.po l1 k) * PS.X k * (PS.C (t.po l2 j) * PS.X j) := by
    rw [PS.C_mul, PS.X_add, hx, hy]
    exact mul4 _ _ _ _
  rw [e, Rg.sm_succ, Rg.mul_add, Rg.add_assoc]
theorem Own.len {w : World} {B g n cap : Nat} {xs : List Int} (h : Own w B (.slice (some ⟨g, 0, none⟩) n cap) xs) : n = xs.length := by
  rcases h.form with ⟨e, _⟩ | ⟨_, _, e, _⟩
  · cases e
  · cases e; rfl
theorem Own.capb {w : World} {B g n cap : Nat} {xs : List Int} (h : Own w B (.slice (some ⟨g, 0, none⟩) n cap) xs) : xs.length ≤ cap ∧ cap ≤ 9223372036854775807 := by
  rcases h.form with ⟨e, _⟩ | ⟨_, _, e, _, _, h1, h2⟩
  · cases e
  · cases e; unfold maxLen at h2; exact ⟨h1, h2⟩
/-- The product is canonical. -/
theorem cano_mul {G : GFd} (t : Tabs G) {l1 l2 us : List Int} (c1 : Cano G l1) (c2 : Cano G l2) (n1 : l1 ≠ []) (n2 : l2 ≠ []) (hl : us.length + 1 = l1.length + l2.length) (hr : ∀ i, 0 ≤ us.getD i 0 ∧ us.getD i 0 < G.q) (hp : t.po us = t.po l1 * t.po l2) : Cano G us := by
  have z1 : 0 < l1.length := List.length_pos_iff.2 n1
  have z2 : 0 < l2.length := List.length_pos_iff.2 n2
  refine ⟨fun x hx => ?_, fun _ e => ?_⟩
  · obtain ⟨i, hi, rfl⟩ := List.getElem_of_mem hx
    have := hr i
    simpa only [List.getD, List.getElem?_eq_getElem hi, Option.getD_some] using this
  · have h := PS.mul_top (m := l1.length - 1) (n := l2.length - 1) (t.po_dl' (l := l1) (by omega)) (t.po_dl' (l := l2) (by omega))
    rw [← hp, t.po_at, show l1.length - 1 + (l2.length - 1) = us.length - 1 by omega, e, t.e_zero] at h
    exact Fd.mul_ne (t.can_top c1 n1) (t.can_top c2 n2) h.symm

end Go.Proofs.Ytmakdclgpeochaa
