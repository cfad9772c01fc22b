/- The walks of Compose and Interpolate of polynomials. Conditions: the field lies in memory with its tables; lengths are bounded. -/
import Derived.Test.YtjoednmoginhpaaKx
import Derived.Test.YtjoednmoginhpaaKg
import Derived.Test.YtjoednmoginhpaaMz
namespace Go.Proofs.Ytjoednmoginhpaa
open Go.RowKit Cw

/-- One entry of a slice, as a slice. -/
theorem sl_part {w : World} {a : Option Addr} {n cap j : Nat} {l : List Int} (h : Sl w (.slice a n cap) l) (hj : j < l.length) : ∃ b off, a = some ⟨b, off, none⟩ ∧ Sl w (.slice (some ⟨b, off + j, none⟩) 1 (cap - j)) [l.getD j 0] := by
  obtain ⟨_, _, e, h1, ⟨h2, _⟩, hc⟩ := h
  cases e
  obtain ⟨b, off, rfl, hb, hcell⟩ := hc (by intro e; rw [e] at hj; simp at hj)
  refine ⟨b, off, rfl, _, _, rfl, by simp; omega, ⟨by omega, fun e => by cases e⟩, fun _ => ⟨b, off + j, rfl, hb, fun i hi => ?_⟩⟩
  obtain rfl : i = 0 := by simp at hi; omega
  exact hcell j hj
set_option maxRecDepth 100000 in
set_option maxHeartbeats 4000000 in
theorem compose_p (b : Nat) (G : GFd) (t : Tabs G) (vp vq : Value) (p q : List Int) (w : World) (hg : IsGF w b G) (hvp : Sl w vp p) (hvq : Sl w vq q) (hlp : p.length ≤ 10000) (hlq : q.length ≤ 10000)
    (hz : ((t.pl p).ln - 1) * ((t.pl q).ln - 1) ≤ 256) :
    Calls Try.prog 50 #[.pointer (some ⟨b, 0, none⟩), vp, vq] w (OutE G t (Pl.cmp (t.pl p) (t.pl q)) w) := by
  have HZ := hid hz
  clear hz
  go_enter Try.func50, Try.ntmps50
  go_wp2_with (fail)
  refine (canon_p b G t vp p _ hg hvp (by omega)).mono ?_
  rintro e w1 ⟨v1, l1, rfl, o1, k1, c1, p1⟩
  have hn1 : l1.length ≤ 10000 := by have := t.can_ln' c1 p1; have := t.pl_ln_le p; omega
  have e1 := hid (t.can_ln' c1 p1)
  have hvq1 := hvq.kept k1
  have hg1 := hg.kept k1
  have P1 := hid p1
  clear p1 hvp hvq hg
  go_wp2_with (fail)
  refine (canon_p b G t vq q _ hg1 hvq1 (by omega)).mono ?_
  rintro e w2 ⟨v2, l2, rfl, o2, k2, c2, p2⟩
  have hn2 : l2.length ≤ 10000 := by have := t.can_ln' c2 p2; have := t.pl_ln_le q; omega
  have e2 := hid (t.can_ln' c2 p2)
  have P2 := hid p2
  have s1 := o1.sl.kept k2
  have s2 := o2.sl
  have hk02 := k1.tr k2
  have hg2 := hg1.kept k2
  obtain ⟨a1, cp1, rfl, h1, h2⟩ := o1.sh
  obtain ⟨a2, cp2, rfl, h3, h4⟩ := o2.sh
  clear p2 k1 k2 hg1 hvq1 o1 o2
  have hz := HZ.out
  rw [← e1.out, ← e2.out] at hz
  have HZ' := hid hz
  have hB : l2.length ≤ 1 ∨ (1 ≤ l2.length - 1 ∧ ((l1.length : Int) - 1) ≤ 256 / ((l2.length : Int) - 1)) := by
    by_cases h : l2.length ≤ 1
    · exact .inl h
    · refine .inr ⟨by omega, ?_⟩
      refine Int.le_ediv_of_mul_le (by omega) ?_
      obtain ⟨n, hn⟩ : ∃ n, l2.length = n + 1 := ⟨l2.length - 1, by omega⟩
      rw [hn, Nat.add_sub_cancel] at hz
      rw [hn, show ((n + 1 : Nat) : Int) - 1 = (n : Int) by omega]
      rcases Nat.eq_zero_or_pos l1.length with g | g
      · rw [g]
        have : (0 : Int) ≤ (n : Int) := by omega
        have : ((0 : Nat) : Int) - 1 = -1 := by omega
        rw [this]
        omega
      · obtain ⟨m, hm⟩ : ∃ m, l1.length = m + 1 := ⟨l1.length - 1, by omega⟩
        rw [hm, Nat.add_sub_cancel] at hz
        rw [hm, show ((m + 1 : Nat) : Int) - 1 = (m : Int) by omega, ← Int.natCast_mul]
        exact Int.ofNat_le.2 hz
  clear hz
  have hz0 : w.heap.size ≤ w2.heap.size := hk02.size
  have hB0 : (l2.length : Int) - 1 < 0 ∨ (l2.length : Int) - 1 = 0 ∨ ((0 : Int) < (l2.length : Int) - 1 ∧ (l1.length : Int) - 1 ≤ 256 / ((l2.length : Int) - 1)) := by
    rcases hB with h | ⟨h, g⟩
    · omega
    · exact .inr (.inr ⟨by omega, g⟩)
  clear hB
  have hA0 : (l1.length : Int) - 1 < 0 ∨ (0 : Int) ≤ (l1.length : Int) - 1 := by omega
  have f4 : (0 : Int) < (l2.length : Int) - 1 → (0 : Int) ≤ 256 / ((l2.length : Int) - 1) := fun h => Int.ediv_nonneg (by omega) (by omega)
  rcases hB0 with f1 | f1 | ⟨f1, f2⟩
  case inr.inr =>
    have f5 := f4 f1
    clear f4
    rcases hA0 with f3 | f3
    case inl =>
      go_wp2_with (fail)
      go_loopw [10, 11] (fun vo vi wr => ∃ (k : Nat) (lo : List Int) (i : Int), k ≤ l1.length ∧ vi = .int .i64 i ∧ Hid (i = (l1.length : Int) - 1 - k) ∧ Own wr w.heap.size vo lo ∧ Kept w2 wr ∧ Cano G lo ∧ Hid (t.pl lo = Pl.hor (t.pl l1) (t.pl l2) l1.length k)) (fun _ vi _ => (intOf vi + 1).toNat)
      case atStart => exact ⟨0, [], _, by omega, rfl, hid (by omega), own_nil _ _, Kept.rfl' _, can_nil G, hid t.pl_nil⟩
      case round =>
        obtain ⟨k, lo, i, hk, rfl, hi, oo, hkw, co, hI⟩ := hrel
        have hgw := hg2.kept hkw
        by_cases hk0 : k = l1.length
        · obtain rfl : i = -1 := by have := hi.out; omega
          have HF : Hid (t.pl lo = Pl.cmp (t.pl p) (t.pl q)) := hid (by rw [hI.out, hk0, Pl.hor_end (t.pl_ln_le l1), P1.out, P2.out])
          clear hk0
          go_wp2_with (fail)
          go_ret2
          exact ⟨_, lo, rfl, oo, hk02.tr hkw, co, HF.out⟩
        · exact absurd hk0 (by omega)
    case inr =>
      go_wp2_with (fail)
      go_loopw [10, 11] (fun vo vi wr => ∃ (k : Nat) (lo : List Int) (i : Int), k ≤ l1.length ∧ vi = .int .i64 i ∧ Hid (i = (l1.length : Int) - 1 - k) ∧ Own wr w.heap.size vo lo ∧ Kept w2 wr ∧ Cano G lo ∧ Hid (t.pl lo = Pl.hor (t.pl l1) (t.pl l2) l1.length k)) (fun _ vi _ => (intOf vi + 1).toNat)
      case atStart => exact ⟨0, [], _, by omega, rfl, hid (by omega), own_nil _ _, Kept.rfl' _, can_nil G, hid t.pl_nil⟩
      case round =>
        obtain ⟨k, lo, i, hk, rfl, hi, oo, hkw, co, hI⟩ := hrel
        have hgw := hg2.kept hkw
        by_cases hk0 : k = l1.length
        · obtain rfl : i = -1 := by have := hi.out; omega
          have HF : Hid (t.pl lo = Pl.cmp (t.pl p) (t.pl q)) := hid (by rw [hI.out, hk0, Pl.hor_end (t.pl_ln_le l1), P1.out, P2.out])
          clear hk0
          go_wp2_with (fail)
          go_ret2
          exact ⟨_, lo, rfl, oo, hk02.tr hkw, co, HF.out⟩
        · obtain ⟨j, hj⟩ : ∃ j, l1.length = k + 1 + j := ⟨l1.length - 1 - k, by omega⟩
          obtain rfl : i = (j : Int) := by have := hi.out; omega
          have hj1 : j < l1.length := by omega
          have hst : Hid (Pl.hor (t.pl l1) (t.pl l2) l1.length (k + 1) = Pl.hor (t.pl l1) (t.pl l2) l1.length k * t.pl l2 + t.pl [l1.getD j 0]) := hid (by
            rw [t.pl_single, ← t.pl_at l1 j, Pl.hor, show l1.length - 1 - k = j by omega])
          obtain ⟨z, hz⟩ : ∃ z, z = l1.getD j 0 := ⟨_, rfl⟩
          have s1w := s1.kept hkw
          have s2w := s2.kept hkw
          have sz := sl_part s1w hj1
          rw [← hz] at hst sz
          have soo := oo.sl
          have hlen : lo.length ≤ 300 := by
            have g1 := t.can_ln' co hI.out
            have g2 := Pl.hor_ln (t.pl l1) (t.pl l2) l1.length k
            have g3 : (k - 1) * ((t.pl l2).ln - 1) ≤ (l1.length - 1) * (l2.length - 1) := Nat.mul_le_mul (by omega) (by have := t.pl_ln_le l2; omega)
            have g4 := HZ'.out
            omega
          have i0 : (0 : Int) ≤ (j : Int) := by omega
          have i1 : (j : Int) < (l1.length : Int) := by omega
          have i2 : (j : Int) + 1 ≤ (l1.length : Int) := by omega
          have i3 : IntKind.i64.wrap ((j : Int) + 1) = (j : Int) + 1 := IntWalk.i64_in _ (by omega)
          have HJ := hid hj
          clear hj hk0 hz
          go_wp2_with (fail)
          obtain ⟨bp, off, rfl, sz⟩ := sz
          have hkc := Kept.rfl' wr
          have i4 : ((j : Int) + 1).toNat = j + 1 := by omega
          have i5 : j + 1 - j = 1 := by omega
          have i6 : (j : Int) + 1 ≤ (cp1 : Int) := by omega
          have i7 : (j : Int) ≤ (j : Int) + 1 := by omega
          go_region_held3 (fun _ => True) (exact trivial)
            (first
              | (go_at_call 69; (with_reducible refine (product_p b G t _ _ lo l2 _ (hgw.kept (by first | exact hkc | exact hkc.tr (kept_drew _) | exact hkc.tr (kept_drewN _ _))) (soo.kept (by first | exact hkc | exact hkc.tr (kept_drew _) | exact hkc.tr (kept_drewN _ _))) (s2w.kept (by first | exact hkc | exact hkc.tr (kept_drew _) | exact hkc.tr (kept_drewN _ _))) (by omega) (by omega)).mono ?_); rintro e w4 ⟨v4, l4, rfl, o4, k4, c4, p4⟩; have P4 := hid p4; have s4 := o4.sl; have n4 : l4.length ≤ 50000 := (by have := t.can_ln' c4 p4; have := Pl.ln_mul_le (t.pl lo) (t.pl l2); have := t.pl_ln_le lo; have := t.pl_ln_le l2; omega); have hkn := Kept.tr (b := _) (by first | exact hkc | exact hkc.tr (kept_drew _) | exact hkc.tr (kept_drewN _ _)) k4; clear p4 hkc k4; have hkc := hkn; clear hkn; have s4k := hid s4; have hk4 := Kept.rfl' w4)
              | (go_at_call 37; (with_reducible refine (padd_p b G t _ _ l4 [z] _ (hgw.kept (by first | exact hkc | exact hkc.tr (kept_drew _) | exact hkc.tr (kept_drewN _ _))) (s4.kept (by first | exact Kept.rfl' _ | exact kept_drew _ | exact kept_drewN _ _)) (sz.kept (by first | exact hkc | exact hkc.tr (kept_drew _) | exact hkc.tr (kept_drewN _ _))) (by omega) (by simp)).mono ?_); rintro e w5 ⟨v5, l5, rfl, o5, k5, c5, p5⟩; have P5 := hid p5; have o5 := o5.mono (Below.size (show Kept wr _ from (by first | exact hkc | exact hkc.tr (kept_drew _) | exact hkc.tr (kept_drewN _ _)))); have hkn := Kept.tr (b := _) (by first | exact hkc | exact hkc.tr (kept_drew _) | exact hkc.tr (kept_drewN _ _)) k5; clear p5 hkc k5; have hkc := hkn; clear hkn))
          all_goals
            go_wp2_with (fail)
            go_roundw
            case rel => exact ⟨k + 1, l5, _, by have := HJ.out; omega, rfl, hid (by have := HJ.out; omega), o5.mono (hk02.tr hkw).size, hkw.tr hkc, c5, hid (by rw [P5.out, P4.out, hI.out, hst.out])⟩
            case measure => simp [intOf]
  all_goals
    clear f4
    rcases hA0 with f3 | f3
    case inl =>
      go_wp2_with (fail)
      go_loopw [10, 11] (fun vo vi wr => ∃ (k : Nat) (lo : List Int) (i : Int), k ≤ l1.length ∧ vi = .int .i64 i ∧ Hid (i = (l1.length : Int) - 1 - k) ∧ Own wr w.heap.size vo lo ∧ Kept w2 wr ∧ Cano G lo ∧ Hid (t.pl lo = Pl.hor (t.pl l1) (t.pl l2) l1.length k)) (fun _ vi _ => (intOf vi + 1).toNat)
      case atStart => exact ⟨0, [], _, by omega, rfl, hid (by omega), own_nil _ _, Kept.rfl' _, can_nil G, hid t.pl_nil⟩
      case round =>
        obtain ⟨k, lo, i, hk, rfl, hi, oo, hkw, co, hI⟩ := hrel
        have hgw := hg2.kept hkw
        by_cases hk0 : k = l1.length
        · obtain rfl : i = -1 := by have := hi.out; omega
          have HF : Hid (t.pl lo = Pl.cmp (t.pl p) (t.pl q)) := hid (by rw [hI.out, hk0, Pl.hor_end (t.pl_ln_le l1), P1.out, P2.out])
          clear hk0
          go_wp2_with (fail)
          go_ret2
          exact ⟨_, lo, rfl, oo, hk02.tr hkw, co, HF.out⟩
        · exact absurd hk0 (by omega)
    case inr =>
      go_wp2_with (fail)
      go_loopw [10, 11] (fun vo vi wr => ∃ (k : Nat) (lo : List Int) (i : Int), k ≤ l1.length ∧ vi = .int .i64 i ∧ Hid (i = (l1.length : Int) - 1 - k) ∧ Own wr w.heap.size vo lo ∧ Kept w2 wr ∧ Cano G lo ∧ Hid (t.pl lo = Pl.hor (t.pl l1) (t.pl l2) l1.length k)) (fun _ vi _ => (intOf vi + 1).toNat)
      case atStart => exact ⟨0, [], _, by omega, rfl, hid (by omega), own_nil _ _, Kept.rfl' _, can_nil G, hid t.pl_nil⟩
      case round =>
        obtain ⟨k, lo, i, hk, rfl, hi, oo, hkw, co, hI⟩ := hrel
        have hgw := hg2.kept hkw
        by_cases hk0 : k = l1.length
        · obtain rfl : i = -1 := by have := hi.out; omega
          have HF : Hid (t.pl lo = Pl.cmp (t.pl p) (t.pl q)) := hid (by rw [hI.out, hk0, Pl.hor_end (t.pl_ln_le l1), P1.out, P2.out])
          clear hk0
          go_wp2_with (fail)
          go_ret2
          exact ⟨_, lo, rfl, oo, hk02.tr hkw, co, HF.out⟩
        · obtain ⟨j, hj⟩ : ∃ j, l1.length = k + 1 + j := ⟨l1.length - 1 - k, by omega⟩
          obtain rfl : i = (j : Int) := by have := hi.out; omega
          have hj1 : j < l1.length := by omega
          have hst : Hid (Pl.hor (t.pl l1) (t.pl l2) l1.length (k + 1) = Pl.hor (t.pl l1) (t.pl l2) l1.length k * t.pl l2 + t.pl [l1.getD j 0]) := hid (by
            rw [t.pl_single, ← t.pl_at l1 j, Pl.hor, show l1.length - 1 - k = j by omega])
          obtain ⟨z, hz⟩ : ∃ z, z = l1.getD j 0 := ⟨_, rfl⟩
          have s1w := s1.kept hkw
          have s2w := s2.kept hkw
          have sz := sl_part s1w hj1
          rw [← hz] at hst sz
          have soo := oo.sl
          have hlen : lo.length ≤ 300 := by
            have g1 := t.can_ln' co hI.out
            have g2 := Pl.hor_ln (t.pl l1) (t.pl l2) l1.length k
            have g3 : (k - 1) * ((t.pl l2).ln - 1) ≤ (l1.length - 1) * (l2.length - 1) := Nat.mul_le_mul (by omega) (by have := t.pl_ln_le l2; omega)
            have g4 := HZ'.out
            omega
          have i0 : (0 : Int) ≤ (j : Int) := by omega
          have i1 : (j : Int) < (l1.length : Int) := by omega
          have i2 : (j : Int) + 1 ≤ (l1.length : Int) := by omega
          have i3 : IntKind.i64.wrap ((j : Int) + 1) = (j : Int) + 1 := IntWalk.i64_in _ (by omega)
          have HJ := hid hj
          clear hj hk0 hz
          go_wp2_with (fail)
          obtain ⟨bp, off, rfl, sz⟩ := sz
          have hkc := Kept.rfl' wr
          have i4 : ((j : Int) + 1).toNat = j + 1 := by omega
          have i5 : j + 1 - j = 1 := by omega
          have i6 : (j : Int) + 1 ≤ (cp1 : Int) := by omega
          have i7 : (j : Int) ≤ (j : Int) + 1 := by omega
          go_region_held3 (fun _ => True) (exact trivial)
            (first
              | (go_at_call 69; (with_reducible refine (product_p b G t _ _ lo l2 _ (hgw.kept (by first | exact hkc | exact hkc.tr (kept_drew _) | exact hkc.tr (kept_drewN _ _))) (soo.kept (by first | exact hkc | exact hkc.tr (kept_drew _) | exact hkc.tr (kept_drewN _ _))) (s2w.kept (by first | exact hkc | exact hkc.tr (kept_drew _) | exact hkc.tr (kept_drewN _ _))) (by omega) (by omega)).mono ?_); rintro e w4 ⟨v4, l4, rfl, o4, k4, c4, p4⟩; have P4 := hid p4; have s4 := o4.sl; have n4 : l4.length ≤ 50000 := (by have := t.can_ln' c4 p4; have := Pl.ln_mul_le (t.pl lo) (t.pl l2); have := t.pl_ln_le lo; have := t.pl_ln_le l2; omega); have hkn := Kept.tr (b := _) (by first | exact hkc | exact hkc.tr (kept_drew _) | exact hkc.tr (kept_drewN _ _)) k4; clear p4 hkc k4; have hkc := hkn; clear hkn; have s4k := hid s4; have hk4 := Kept.rfl' w4)
              | (go_at_call 37; (with_reducible refine (padd_p b G t _ _ l4 [z] _ (hgw.kept (by first | exact hkc | exact hkc.tr (kept_drew _) | exact hkc.tr (kept_drewN _ _))) (s4.kept (by first | exact Kept.rfl' _ | exact kept_drew _ | exact kept_drewN _ _)) (sz.kept (by first | exact hkc | exact hkc.tr (kept_drew _) | exact hkc.tr (kept_drewN _ _))) (by omega) (by simp)).mono ?_); rintro e w5 ⟨v5, l5, rfl, o5, k5, c5, p5⟩; have P5 := hid p5; have o5 := o5.mono (Below.size (show Kept wr _ from (by first | exact hkc | exact hkc.tr (kept_drew _) | exact hkc.tr (kept_drewN _ _)))); have hkn := Kept.tr (b := _) (by first | exact hkc | exact hkc.tr (kept_drew _) | exact hkc.tr (kept_drewN _ _)) k5; clear p5 hkc k5; have hkc := hkn; clear hkn))
          all_goals
            go_wp2_with (fail)
            go_roundw
            case rel => exact ⟨k + 1, l5, _, by have := HJ.out; omega, rfl, hid (by have := HJ.out; omega), o5.mono (hk02.tr hkw).size, hkw.tr hkc, c5, hid (by rw [P5.out, P4.out, hI.out, hst.out])⟩
            case measure => simp [intOf]
end Go.Proofs.Ytjoednmoginhpaa
