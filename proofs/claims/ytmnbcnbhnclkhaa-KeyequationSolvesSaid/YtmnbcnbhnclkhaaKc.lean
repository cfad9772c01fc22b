/- The walk of the product of two polynomials. Conditions: the field lies in memory with its tables; lengths are bounded. -/
import Derived.Test.YtmnbcnbhnclkhaaKb
import Derived.Deep.RegionLawGrows
namespace Go.Proofs.Ytmnbcnbhnclkhaa
open Go.RowKit Cw

theorem mul4 {α : Type} [Rg α] (a b c d : α) : a * b * (c * d) = a * c * (b * d) := by ac_rfl
theorem po_step {G : GFd} (t : Tabs G) {us l1 l2 : List Int} {k j : Nat} {x y u : Int} (h : k + j < us.length) (hx : x = l1.getD k 0) (hy : y = l2.getD j 0) (hu : u = us.getD (k + j) 0)
    (hup : t.po us = Rg.sm k (fun i => PS.C (t.po l1 i) * PS.X i) * t.po l2 + PS.C (t.po l1 k) * PS.X k * Rg.sm j (fun i => PS.C (t.po l2 i) * PS.X i)) :
    t.po (us.set (k + j) (addG G u (mulG G x y))) = Rg.sm k (fun i => PS.C (t.po l1 i) * PS.X i) * t.po l2 + PS.C (t.po l1 k) * PS.X k * Rg.sm (j + 1) (fun i => PS.C (t.po l2 i) * PS.X i) := by
  rw [hu, t.po_addmul h, hup]
  have e : PS.C (t.e x * t.e y) * PS.X (k + j) = PS.C (t.po l1 k) * PS.X k * (PS.C (t.po l2 j) * PS.X j) := by
    rw [PS.C_mul, PS.X_add, hx, hy]
    exact mul4 _ _ _ _
  rw [e, Rg.sm_succ, Rg.mul_add, Rg.add_assoc]
theorem Own.len {w : World} {B g n cap : Nat} {xs : List Int} (h : Own w B (.slice (some ⟨g, 0, none⟩) n cap) xs) : n = xs.length := by
  rcases h.form with ⟨e, _⟩ | ⟨_, _, e, _⟩
  · cases e
  · cases e; rfl
theorem Own.capb {w : World} {B g n cap : Nat} {xs : List Int} (h : Own w B (.slice (some ⟨g, 0, none⟩) n cap) xs) : xs.length ≤ cap ∧ cap ≤ 9223372036854775807 := by
  rcases h.form with ⟨e, _⟩ | ⟨_, _, e, _, _, h1, h2⟩
  · cases e
  · cases e; unfold maxLen at h2; exact ⟨h1, h2⟩
/-- The product is canonical. -/
theorem cano_mul {G : GFd} (t : Tabs G) {l1 l2 us : List Int} (c1 : Cano G l1) (c2 : Cano G l2) (n1 : l1 ≠ []) (n2 : l2 ≠ []) (hl : us.length + 1 = l1.length + l2.length) (hr : ∀ i, 0 ≤ us.getD i 0 ∧ us.getD i 0 < G.q) (hp : t.po us = t.po l1 * t.po l2) : Cano G us := by
  have z1 : 0 < l1.length := List.length_pos_iff.2 n1
  have z2 : 0 < l2.length := List.length_pos_iff.2 n2
  refine ⟨fun x hx => ?_, fun _ e => ?_⟩
  · obtain ⟨i, hi, rfl⟩ := List.getElem_of_mem hx
    have := hr i
    simpa only [List.getD, List.getElem?_eq_getElem hi, Option.getD_some] using this
  · have h := PS.mul_top (m := l1.length - 1) (n := l2.length - 1) (t.po_dl' (l := l1) (by omega)) (t.po_dl' (l := l2) (by omega))
    rw [← hp, t.po_at, show l1.length - 1 + (l2.length - 1) = us.length - 1 by omega, e, t.e_zero] at h
    exact Fd.mul_ne (t.can_top c1 n1) (t.can_top c2 n2) h.symm

set_option maxRecDepth 100000 in
set_option maxHeartbeats 4000000 in
theorem product_any (b : Nat) (G : GFd) (t : Tabs G) (vp vq : Value) (p q : List Int) (w : World) (hg : IsGF w b G) (hvp : Sl w vp p) (hvq : Sl w vq q) (hlp : p.length ≤ 100000) (hlq : q.length ≤ 100000) :
    Calls Try.prog 87 #[.pointer (some ⟨b, 0, none⟩), vp, vq] w (OutV G t (t.po p * t.po q) (p.length + q.length - 1) w) := by
  have q0 : 0 < G.q := by have := t.qb; omega
  go_enter Try.func87, Try.ntmps87
  go_wp2_with (fail)
  refine (canon_any b G t vp p _ hg hvp (by omega)).mono ?_
  rintro e w1 ⟨g1, k1, cap1, l1, rfl, o1, kk1, c1, p1, n1⟩
  have P1 := hid p1
  clear p1
  have hg1 := hg.kept kk1
  have hq1 := hvq.kept kk1
  have hl1 := o1.len
  subst hl1
  obtain ⟨cb1, cb1'⟩ := o1.capb
  go_wp2_with (fail)
  refine (canon_any b G t vq q _ hg1 hq1 (by omega)).mono ?_
  rintro e w2 ⟨g2, k2, cap2, l2, rfl, o2, kk2, c2, p2, n2⟩
  have P2 := hid p2
  clear p2
  have hl2 := o2.len
  subst hl2
  obtain ⟨cb2, cb2'⟩ := o2.capb
  have hk02 := kk1.tr kk2
  have hg2 := hg1.kept kk2
  have o1' := o1.kept kk2
  have HO : Hid (t.po l1 * t.po l2 = t.po p * t.po q) := hid (by rw [P1.out, P2.out])
  have hg1l := o1'.lt.2
  have hg2l := o2.lt.2
  clear hg hvp hvq hg1 hq1 o1 kk1 kk2 P1 P2
  by_cases z1 : l1 = []
  · have HZ : Hid (t.po p * t.po q = 0) := hid (by rw [← HO.out, z1, t.po_nil, Rg.zero_mul])
    subst z1
    go_wp2_with (fail)
    go_ret
    exact ⟨_, [], rfl, own_nil _ _, hk02, can_nil G, by rw [HZ.out, t.po_nil], by simp⟩
  have hz1 : 0 < l1.length := List.length_pos_iff.2 z1
  have t1 : ((l1.length : Int) == 0) = false := by simp; omega
  have Z1 := hid z1
  clear z1
  by_cases z2 : l2 = []
  · have HZ : Hid (t.po p * t.po q = 0) := hid (by rw [← HO.out, z2, t.po_nil, Rg.mul_zero])
    subst z2
    go_wp2_with (fail)
    go_ret
    exact ⟨_, [], rfl, own_nil _ _, hk02, can_nil G, by rw [HZ.out, t.po_nil], by simp⟩
  have hz2 : 0 < l2.length := List.length_pos_iff.2 z2
  have t2 : ((l2.length : Int) == 0) = false := by simp; omega
  have Z2 := hid z2
  clear z2
  obtain ⟨n, hn⟩ : ∃ n, n = l1.length + l2.length - 1 := ⟨_, rfl⟩
  have hnn : (l1.length : Int) + (l2.length : Int) - 1 = (n : Int) := by omega
  have HN := hid hn
  have HNN := hid hnn
  have n200 : n ≤ 200000 := by omega
  have n12 : n + 1 = l1.length + l2.length := by omega
  have N12 := hid n12
  clear hn hnn n12
  go_wp2_with (at_make; refine wpList_make_ints rfl _ _ rfl n _ _ rfl rfl HNN.out HNN.out (by omega) ?_; intro w3 ho hk3)
  have HQ : Hid (∀ k, k ≤ l1.length → PS.dl (Rg.sm k (fun i => PS.C (t.po l1 i) * PS.X i)) l1.length) := hid (fun k hk => PS.dl_sm fun i hi => PS.dl_Cmul _ (PS.dl_mono (PS.dl_X i) (by omega)))
  go_loopw [35] (fun vi wr => ∃ (k : Nat) (us : List Int), k ≤ l1.length ∧ vi = .int .i64 k ∧ Hid (us.length = n) ∧ Hid (∀ i, 0 ≤ us.getD i 0 ∧ us.getD i 0 < G.q) ∧ Hid (t.po us = Rg.sm k (fun i => PS.C (t.po l1 i) * PS.X i) * t.po l2) ∧
      Own wr w2.heap.size (.slice (some ⟨w2.heap.size, 0, none⟩) n n) us ∧ Kept w2 wr) (fun vi _ => l1.length - (intOf vi).toNat)
  case atStart => exact ⟨0, _, by omega, rfl, hid (by simp), hid (fun i => by
    by_cases hi : i < n
    · simp [hi]; omega
    · rw [ld_out (by simp; omega)]; omega), hid (by rw [t.po_zeros, Rg.sm_zero, Rg.zero_mul]), ho, hk3⟩
  case round =>
    obtain ⟨k, us, hkp, rfl, hul, hur, hup, hown, hkw⟩ := hrel
    clear ho hk3
    have c1k := fun i hi => (Kept.cell' hkw hg1l).trans (o1'.cell (i := i) hi)
    have C1 := hid c1k
    clear c1k
    by_cases hlt : k < l1.length
    · have hck := C1.out k hlt
      obtain ⟨x, hx⟩ : ∃ z, z = l1.getD k 0 := ⟨_, rfl⟩
      rw [← hx] at hck
      have HX := hid hx
      have hki : (k : Int) < (l1.length : Int) := by omega
      clear hx
      go_wp2_with (fail)
      go_loopw [42] (fun vi wr => ∃ (j : Nat) (us : List Int), j ≤ l2.length ∧ vi = .int .i64 j ∧ Hid (us.length = n) ∧ Hid (∀ i, 0 ≤ us.getD i 0 ∧ us.getD i 0 < G.q) ∧ Hid (t.po us = Rg.sm k (fun i => PS.C (t.po l1 i) * PS.X i) * t.po l2 + PS.C (t.po l1 k) * PS.X k * Rg.sm j (fun i => PS.C (t.po l2 i) * PS.X i)) ∧
          Own wr w2.heap.size (.slice (some ⟨w2.heap.size, 0, none⟩) n n) us ∧ Kept w2 wr) (fun vi _ => l2.length - (intOf vi).toNat)
      case atStart => exact ⟨0, us, by omega, rfl, hul, hur, hid (by rw [hup.out, Rg.sm_zero, Rg.mul_zero, Rg.add_zero]), hown, hkw⟩
      case round =>
        obtain ⟨j, us, hjp, rfl, hul, hur, hup, hown, hkw⟩ := hrel
        have hgw := hg2.kept hkw
        by_cases hj : j < l2.length
        · have hcj := (Kept.cell' hkw hg2l).trans (o2.cell (i := j) hj)
          obtain ⟨y, hy⟩ : ∃ z, z = l2.getD j 0 := ⟨_, rfl⟩
          rw [← hy] at hcj
          have HY := hid hy
          have hnn := N12.out
          have hcu := hown.cell (i := k + j) (by rw [hul.out]; omega)
          obtain ⟨u, hu⟩ : ∃ z, z = us.getD (k + j) 0 := ⟨_, rfl⟩
          rw [← hu] at hcu
          have hfu := hown.frozen (k + j)
          have j0 : (0 : Int) ≤ (k : Int) + (j : Int) := by omega
          have j1 : (k : Int) + (j : Int) < (n : Int) := by omega
          have j2 : ((k : Int) + (j : Int)).toNat = k + j := by omega
          have j4 : (j : Int) < (l2.length : Int) := by omega
          have HUS : Hid (t.po (us.set (k + j) (addG G u (mulG G x y))) = Rg.sm k (fun i => PS.C (t.po l1 i) * PS.X i) * t.po l2 + PS.C (t.po l1 k) * PS.X k * Rg.sm (j + 1) (fun i => PS.C (t.po l2 i) * PS.X i)) := hid (po_step t (by rw [hul.out]; omega) HX.out HY.out hu hup.out)
          have HUR : Hid (∀ i, 0 ≤ (us.set (k + j) (addG G u (mulG G x y))).getD i 0 ∧ (us.set (k + j) (addG G u (mulG G x y))).getD i 0 < G.q) := hid (fun i => by
            by_cases e : i = k + j
            · subst e; rw [ldset_eq _ (by rw [hul.out]; omega)]; exact t.add_bd _ _
            · rw [ldset_ne _ (fun h => e h.symm)]; exact hur.out i)
          clear hy hu hnn
          go_wp2_with (fail)
          have w1' : IntKind.i64.wrap ((k : Int) + (j : Int)) = (k : Int) + (j : Int) := IntWalk.i64_in _ (by omega)
          go_region_law (first
            | (go_simp; go_at_call 43; (with_reducible refine (mul_any b G x y _ (by first | exact hgw.drew | exact hgw.drewN _ | exact hgw.drew.drewN _) t).mono ?_); rintro e w4 ⟨rfl, n4, rfl⟩)
            | (go_simp; go_at_call 42; (with_reducible refine (add_any b G u (mulG G x y) _ (by first | exact hgw.drew | exact hgw.drewN _ | exact hgw.drew.drewN _) t).mono ?_); rintro e w5 ⟨rfl, n5, rfl⟩))
          all_goals
            clear w1'
            go_wp2_with (fail)
            go_roundw
            case rel =>
              refine ⟨j + 1, us.set (k + j) (addG G u (mulG G x y)), by omega, by go_num, hid (by simp [hul.out]), HUR, HUS, ?_, ?_⟩
              · first | exact (hown.drewN _).set _ _ | exact ((hown.drewN _).set _ _).drew | exact (hown.set _ _).drewN _ | exact ((hown.set _ _).drewN _).drew | exact (hown.set _ _).drew
              · first | exact Below.setCell (hkw.drewN _) (p := ⟨w2.heap.size, k + j, none⟩) (Nat.le_refl _) _ | exact (Below.setCell (hkw.drewN _) (p := ⟨w2.heap.size, k + j, none⟩) (Nat.le_refl _) _).drew | exact Kept.drewN (Below.setCell hkw (p := ⟨w2.heap.size, k + j, none⟩) (Nat.le_refl _) _) _
            case measure => simp [intOf]; omega
        · have ej : j = l2.length := by omega
          have HE : Hid (t.po us = Rg.sm (k + 1) (fun i => PS.C (t.po l1 i) * PS.X i) * t.po l2) := hid (by
            rw [hup.out, ej, ← PS.sum_X (t.po_dl l2), Rg.sm_succ, Rg.add_mul])
          clear ej
          go_wp2_with (fail)
          go_roundw
          case rel => exact ⟨k + 1, us, by omega, by go_num, hul, hur, HE, hown, hkw⟩
          case measure => simp [intOf]; omega
    · have ek : k = l1.length := by omega
      have HE : Hid (t.po us = t.po l1 * t.po l2) := hid (by rw [hup.out, ek, ← PS.sum_X (t.po_dl l1)])
      clear ek
      go_wp2_with (fail)
      go_ret
      exact ⟨_, us, rfl, hown.mono hk02.size, hk02.tr hkw, cano_mul t c1 c2 Z1.out Z2.out (by rw [hul.out]; exact N12.out) hur.out HE.out, by rw [HE.out, HO.out], by have := hul.out; have := HN.out; omega⟩
end Go.Proofs.Ytmnbcnbhnclkhaa
