/- What functions on polynomials hand back, in the ring of polynomials; the walks of Scale, Monic and Shift. Conditions: the field lies in memory with its tables; lengths are bounded. -/
import Derived.Test.YtmakdclgpeochaaKe
import Derived.Test.YtmakdclgpeochaaMqA
import Derived.Test.YtmakdclgpeochaaGi
namespace Go.Proofs.Ytmakdclgpeochaa
open Go.RowKit Cw

/-- A canonical list of the call's own making, that is the polynomial P. -/
def OutP (G : GFd) (t : Tabs G) (P : Pl (Rs t.fs.mon)) (w : World) (e : Ending) (w' : World) : Prop :=
  ∃ v l, e = .returned v ∧ Own w' w.heap.size v l ∧ Kept w w' ∧ Cano G l ∧ t.pl l = P
/-- The same with an error's number behind it. -/
def OutE (G : GFd) (t : Tabs G) (P : Pl (Rs t.fs.mon)) (w : World) (e : Ending) (w' : World) : Prop :=
  ∃ v l, e = .returned (.tuple #[v, .int .i64 0]) ∧ Own w' w.heap.size v l ∧ Kept w w' ∧ Cano G l ∧ t.pl l = P
/-- The outcome of a division: quotient and remainder. -/
def OutD (G : GFd) (t : Tabs G) (P Q : Pl (Rs t.fs.mon)) (w : World) (e : Ending) (w' : World) : Prop :=
  ∃ vu vr lu lr, e = .returned (.tuple #[vu, vr, .int .i64 0]) ∧ Own w' w.heap.size vu lu ∧ Own w' w.heap.size vr lr ∧ Kept w w' ∧ Cano G lu ∧ Cano G lr ∧ t.pl lu = Pl.quo P Q ∧ t.pl lr = Pl.rem P Q
theorem OutV.p {G : GFd} {t : Tabs G} {P : Pl (Rs t.fs.mon)} {a : PS (Rs t.fs.mon)} {n : Nat} {w w' : World} {e : Ending} (h : OutV G t a n w e w') (k : a = P.a) : OutP G t P w e w' := by
  obtain ⟨v, l, h1, h2, h3, h4, h5, _⟩ := h
  exact ⟨v, l, h1, h2, h3, h4, Pl.ext (h5.trans k)⟩
theorem DivOut.p {G : GFd} {t : Tabs G} {P Q : Pl (Rs t.fs.mon)} {n : Nat} {w w' : World} {e : Ending} (h : DivOut G t P.a Q.a n w e w') (hq : Q ≠ 0) : OutD G t P Q w e w' := by
  obtain ⟨vu, vr, lu, lr, h1, h2, h3, h4, h5, h6, h7, h8, _, _⟩ := h
  obtain ⟨d, e1, g1, g2⟩ := Pl.deg hq
  have h9 := h8 d g1
  have h10 := t.pl_ln_le lr
  obtain ⟨k1, k2⟩ := Pl.div_of (a := P) (b := Q) (q := t.pl lu) (r := t.pl lr) (Pl.ext h7) (by omega)
  exact ⟨vu, vr, lu, lr, h1, h2, h3, h4, h5, h6, k1.symm, k2.symm⟩
/-- The shape of a slice of the call's own making. -/
theorem Own.sh {w : World} {B : Nat} {v : Value} {xs : List Int} (h : Own w B v xs) : ∃ a cap, v = .slice a xs.length cap ∧ xs.length ≤ cap ∧ cap ≤ 9223372036854775807 := by
  rcases h.form with ⟨rfl, rfl⟩ | ⟨g, cap, rfl, _, _, h2, h3⟩
  · exact ⟨none, 0, rfl, Nat.le_refl _, by omega⟩
  · unfold maxLen at h3; exact ⟨_, cap, rfl, h2, h3⟩
/-- Its cells. -/
theorem Own.sh' {w : World} {B : Nat} {v : Value} {xs : List Int} (h : Own w B v xs) (hne : xs ≠ []) : ∃ g cap, v = .slice (some ⟨g, 0, none⟩) xs.length cap ∧ xs.length ≤ cap ∧ cap ≤ 9223372036854775807 ∧ B ≤ g ∧ g < w.heap.size := by
  rcases h.form with ⟨rfl, rfl⟩ | ⟨g, cap, rfl, h0, h1, h2, h3⟩
  · exact absurd rfl hne
  · unfold maxLen at h3; exact ⟨g, cap, rfl, h2, h3, h0, h1⟩
theorem own_addr {w : World} {B g n cap : Nat} {xs : List Int} (h : Own w B (.slice (some ⟨g, 0, none⟩) n cap) xs) : ∀ ad, some (⟨g, 0, none⟩ : Addr) = some ad → ∀ j, j < xs.length → w.cell? (ad.add j) = some (.int .i64 (xs.getD j 0)) := fun ad e j hj => by
  cases e
  rw [Addr.add_lit, Nat.zero_add]
  exact h.cell hj
theorem trim_pl {G : GFd} (t : Tabs G) {g n cap B : Nat} {us : List Int} {w : World} (ho : Own w B (.slice (some ⟨g, 0, none⟩) n cap) us) (hr : ∀ i, 0 ≤ us.getD i 0 ∧ us.getD i 0 < G.q) :
    Calls Try.prog 61 #[.slice (some ⟨g, 0, none⟩) n cap] w fun e w' => ∃ k l, e = .returned (.slice (some ⟨g, 0, none⟩) k cap) ∧ Own w' B (.slice (some ⟨g, 0, none⟩) k cap) l ∧ (∃ m, w' = w.drewN m) ∧ Cano G l ∧ t.pl l = t.pl us :=
  (trim_own g n cap B us w ho).mono fun _ _ ⟨k, he, hk, m, hw⟩ => ⟨k, us.take k, he, by rw [hw]; exact (ho.take hk.1).drewN m, ⟨m, hw⟩, can_of hr hk, t.pl_take hk.2.1⟩

variable (b : Nat) (G : GFd) (t : Tabs G) (vp vq : Value) (p q : List Int) (w : World)
theorem canon_p (hg : IsGF w b G) (hv : Sl w vp p) (hl : p.length ≤ 1000000) : Calls Try.prog 42 #[.pointer (some ⟨b, 0, none⟩), vp] w (OutP G t (t.pl p) w) :=
  (canon_any b G t vp p w hg hv hl).mono fun _ _ ⟨_, _, _, l, he, o, kk, c, hp, _⟩ => ⟨_, l, he, o, kk, c, Pl.ext hp⟩
theorem combine_p (a : Int) (hg : IsGF w b G) (hvp : Sl w vp p) (hvq : Sl w vq q) (hlp : p.length ≤ 100000) (hlq : q.length ≤ 100000) :
    Calls Try.prog 70 #[.pointer (some ⟨b, 0, none⟩), vp, .int .i64 a, vq] w (OutP G t (t.pl p + Pl.c (t.e a) * t.pl q) w) :=
  (combine_any b G t vp vq p q a w hg hvp hvq hlp hlq).mono fun _ _ ⟨_, _, _, l, he, o, kk, c, hp, _⟩ => ⟨_, l, he, o, kk, c, Pl.ext hp⟩
theorem psub_p (hg : IsGF w b G) (hvp : Sl w vp p) (hvq : Sl w vq q) (hlp : p.length ≤ 100000) (hlq : q.length ≤ 100000) :
    Calls Try.prog 57 #[.pointer (some ⟨b, 0, none⟩), vp, vq] w (OutP G t (t.pl p - t.pl q) w) :=
  (psub_any b G t vp vq p q w hg hvp hvq hlp hlq).mono fun _ _ h => h.p rfl
/-- The product of many factors. -/
noncomputable def prP {G : GFd} (t : Tabs G) (ls : List (List Int)) : Nat → Pl (Rs t.fs.mon)
  | 0 => 1
  | k + 1 => prP t ls k * t.pl (ls.getD k [])
theorem prP_a {G : GFd} (t : Tabs G) (ls : List (List Int)) : ∀ k, prF t ls k = (prP t ls k).a
  | 0 => rfl
  | k + 1 => by rw [prF, prP_a t ls k]; rfl
theorem pl_shift {G : GFd} (t : Tabs G) (l : List Int) (n : Nat) : t.pl (List.replicate n 0 ++ l) = Pl.x n * t.pl l := Pl.ext (PS.ext fun i => by
  show t.e ((List.replicate n 0 ++ l).getD i 0) = (Pl.x n * t.pl l).a i
  rw [Pl.x_mul_at, t.pl_at]
  by_cases hi : i < n
  · rw [if_pos hi]
    have : (List.replicate n (0 : Int) ++ l).getD i 0 = 0 := by
      rw [List.getD, List.getElem?_append_left (by simpa using hi)]
      simp [hi]
    rw [this, t.e_zero]
  · rw [if_neg hi]
    have : (List.replicate n (0 : Int) ++ l).getD i 0 = l.getD (i - n) 0 := by
      rw [List.getD, List.getElem?_append_right (by simp; omega)]
      simp [List.getD]
    rw [this])
theorem can_shift {G : GFd} (t : Tabs G) (l : List Int) (n : Nat) (hl : l ≠ []) (hc : Cano G l) : Cano G (List.replicate n 0 ++ l) := by
  have hp := List.length_pos_iff.2 hl
  have hq := t.qb
  refine ⟨fun x hx => ?_, fun _ => ?_⟩
  · rcases List.mem_append.1 hx with h | h
    · rw [(List.mem_replicate.1 h).2]; omega
    · exact hc.1 x h
  · rw [List.length_append, List.length_replicate, List.getD, List.getElem?_append_right (by simp; omega), List.length_replicate, show n + l.length - 1 - n = l.length - 1 by omega]
    exact hc.2 hl
end Go.Proofs.Ytmakdclgpeochaa
