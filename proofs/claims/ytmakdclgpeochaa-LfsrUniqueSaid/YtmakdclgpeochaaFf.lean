/- The walk of New. No conditions. -/
import Derived.Test.YtmakdclgpeochaaFe
import Derived.Test.YtmakdclgpeochaaSpA
import Derived.Deep.DeepCutAuto
namespace Go.Proofs.Ytmakdclgpeochaa
open Go.RowKit Cw

/-- A field in memory. -/
structure IsGF (w : World) (b : Nat) (G : GFd) : Prop where
  lt : b < w.heap.size
  hP : w.cell? ⟨b, 0, none⟩ = some (.int .i64 G.P)
  hM : w.cell? ⟨b, 1, none⟩ = some (.int .i64 G.M)
  hmod : ∃ vm, w.cell? ⟨b, 2, none⟩ = some vm ∧ Sl w vm G.mod
  hq : w.cell? ⟨b, 3, none⟩ = some (.int .i64 G.q)
  hexp : ∃ be ce, w.cell? ⟨b, 4, none⟩ = some (.slice (some ⟨be, 0, none⟩) G.exp.length ce) ∧ be < w.heap.size ∧ ∀ i, i < G.exp.length → w.cell? ⟨be, i, none⟩ = some (.int .i64 (G.exp.getD i 0))
  hlog : ∃ be ce, w.cell? ⟨b, 5, none⟩ = some (.slice (some ⟨be, 0, none⟩) G.log.length ce) ∧ be < w.heap.size ∧ ∀ i, i < G.log.length → w.cell? ⟨be, i, none⟩ = some (.int .i64 (G.log.getD i 0))
theorem IsGF.kept {w w' : World} {b : Nat} {G : GFd} (h : IsGF w b G) (k : Kept w w') : IsGF w' b G := by
  obtain ⟨h1, h2, h3, ⟨vm, h4, h5⟩, h6, ⟨be, ce, h7, h8, h9⟩, ⟨bl, cl, h10, h11, h12⟩⟩ := h
  exact ⟨k.lt h1, (k.cell' h1).trans h2, (k.cell' h1).trans h3, ⟨vm, (k.cell' h1).trans h4, h5.kept k⟩, (k.cell' h1).trans h6, ⟨be, ce, (k.cell' h1).trans h7, k.lt h8, fun i hi => (k.cell' h8).trans (h9 i hi)⟩,
    ⟨bl, cl, (k.cell' h1).trans h10, k.lt h11, fun i hi => (k.cell' h11).trans (h12 i hi)⟩⟩
theorem IsGF.drewN {w : World} {b : Nat} {G : GFd} (h : IsGF w b G) (n : Nat) : IsGF (w.drewN n) b G := h.kept (kept_drewN w n)
theorem IsGF.drew {w : World} {b : Nat} {G : GFd} (h : IsGF w b G) : IsGF w.drew b G := h.kept (kept_drew w)

theorem new_noShape (P M : Int) (vm : Value) (mod : List Int) (w : World) (hvm : Sl w vm mod) (hs : ¬ ShapeP P M mod) :
    Calls Try.prog 33 #[.agg #[.int .i64 P, .int .i64 M, vm]] w fun e w' => e = .returned (.tuple #[.pointer none, .int .i64 1]) ∧ Kept w w' := by
  have hk0 := kept_alloc w (.cells #[.int .i64 P, .int .i64 M, vm] 24)
  have hv1 := hvm.kept hk0
  have HF : Hid (false = true ↔ ShapeP P M mod) := hid (by simp [hs])
  clear hs
  go_enter Try.func33, Try.ntmps33
  go_wp2_with (go_at_call 52; refine (shape_any P M vm mod _ hv1 false HF.out).mono ?_; rintro e w1 ⟨rfl, hk1⟩)
  go_ret2
  exact ⟨rfl, hk0.tr hk1⟩

set_option maxHeartbeats 1000000 in
theorem new_noField (P M : Int) (vm : Value) (mod : List Int) (w : World) (hvm : Sl w vm mod) (hs : ShapeP P M mod) (hn : ¬ FieldP P M mod) :
    Calls Try.prog 33 #[.agg #[.int .i64 P, .int .i64 M, vm]] w fun e w' => e = .returned (.tuple #[.pointer none, .int .i64 1]) ∧ Kept w w' := by
  have hk0 := kept_alloc w (.cells #[.int .i64 P, .int .i64 M, vm] 24)
  have hv1 := hvm.kept hk0
  have hbx := boxF_new w P M vm 24
  obtain ⟨o1, o2, o3, o4, o5, o6⟩ := ordS_pos hs.1
  obtain ⟨m, rfl⟩ := Int.eq_ofNat_of_zero_le (show 0 ≤ M by omega)
  have hm : (m : Int).toNat = m := by omega
  rw [hm] at o5 o6
  have h1 : 1 ≤ P ^ m := Int.pow_pos (by omega)
  obtain ⟨q, hq⟩ := Int.eq_ofNat_of_zero_le (show 0 ≤ P ^ m by omega)
  have HO : Hid (ordS P m = q) := hid (by rw [o6, hq])
  have Hq := hid hq
  have hq2 : q ≤ 256 := by omega
  have hml : 1 < m → mod.length = m := fun h => by have := (hs.2.2.2 (by omega)).1; omega
  have hmd : Digs P mod := by
    by_cases e : m = 1
    · have := hs.2.2.1 (by omega)
      subst this
      intro x hx; cases hx
    · exact (hs.2.2.2 (by omega)).2
  have HN : Hid (∀ x, 1 ≤ x → x < (q : Int) → ¬ IsGen P m mod q x) := hid (fun x g1 g2 g3 => hn ⟨hs, x, g1, by rw [HO.out]; exact g2, by rw [HO.out]; simpa using g3⟩)
  have HS := hid hs
  clear hs hn hq h1 o5 o6 hm
  go_enter Try.func33, Try.ntmps33
  go_wp2_with (first
    | (go_at_call 52; refine (shape_any P m vm mod _ hv1 true ⟨fun _ => HS.out, fun _ => rfl⟩).mono ?_; rintro e w1 ⟨rfl, hk1⟩; have bx1 := hbx.kept hk1; have c0 := bx1.h0; have c1 := bx1.h1; have c2 := bx1.h2)
    | (go_at_call 53; refine (order_any P m _).mono ?_; rintro e w2 ⟨rfl, n2, rfl⟩; rw [HO.out])
    | (go_at_call 54; refine (generator_any P m vm mod q _ ((hv1.kept hk1).kept (kept_drewN _ _)) o1 o2 (by omega) (by omega) Hq.out hq2 hml hmd).mono ?_; rintro e w3 ⟨hk3, (⟨g, v, g1, g2, g3, _⟩ | ⟨_, rfl⟩)⟩; (exact absurd g3 (HN.out g g1 g2))))
  go_ret2
  exact ⟨rfl, (hk0.tr (hk1.drewN _)).tr hk3⟩
end Go.Proofs.Ytmakdclgpeochaa
