/- The walk of DivMod of polynomials. Conditions: the field lies in memory with its tables; lengths are bounded. -/
import Derived.Test.YtmnbcnbhnclkhaaKc
import Derived.Test.YtmnbcnbhnclkhaaMqA
namespace Go.Proofs.Ytmnbcnbhnclkhaa
open Go.RowKit Cw

/-- What a division hands back. -/
def DivOut (G : GFd) (t : Tabs G) (P Q : PS (Rs t.fs.mon)) (n : Nat) (w : World) (e : Ending) (w' : World) : Prop :=
  ∃ vu vr lu lr, e = .returned (.tuple #[vu, vr, .int .i64 0]) ∧ Own w' w.heap.size vu lu ∧ Own w' w.heap.size vr lr ∧ Kept w w' ∧ Cano G lu ∧ Cano G lr ∧ P = t.po lu * Q + t.po lr ∧ (∀ d, PS.dl Q (d + 1) → lr.length ≤ d) ∧ lu.length ≤ n ∧ lr.length ≤ n

theorem div_fin {G : GFd} (t : Tabs G) {l1 l2 us rs : List Int} {P Q : PS (Rs t.fs.mon)} {n nu nr : Nat} (c2 : Cano G l2) (h2 : l2 ≠ []) (hP : t.po l1 = P) (hQ : t.po l2 = Q) (hn : l1.length ≤ n) (k : DvS t l1 l2 us rs (l1.length + 1 - l2.length))
    (hu : nu ≤ us.length ∧ (∀ i, nu ≤ i → us.getD i 0 = 0) ∧ (nu = 0 ∨ us.getD (nu - 1) 0 ≠ 0)) (hr : nr ≤ rs.length ∧ (∀ i, nr ≤ i → rs.getD i 0 = 0) ∧ (nr = 0 ∨ rs.getD (nr - 1) 0 ≠ 0)) :
    Cano G (us.take nu) ∧ Cano G (rs.take nr) ∧ P = t.po (us.take nu) * Q + t.po (rs.take nr) ∧ (∀ d, PS.dl Q (d + 1) → (rs.take nr).length ≤ d) ∧ (us.take nu).length ≤ n ∧ (rs.take nr).length ≤ n := by
  obtain ⟨e1, e2⟩ := t.dv_end h2 k
  have hz2 : 0 < l2.length := List.length_pos_iff.2 h2
  have h5 := k.ul
  have h6 := k.rl
  have hnr : nr ≤ l2.length - 1 := by
    rcases hr.2.2 with e | e
    · omega
    · rcases Nat.lt_or_ge (l2.length - 1) nr with g | g
      · exact absurd (e2 (nr - 1) (by omega)) e
      · exact g
  refine ⟨can_of k.ur hu, can_of k.rr hr, ?_, fun d hd => ?_, ?_, ?_⟩
  · rw [t.po_take hu.2.1, t.po_take hr.2.1, ← hP, ← hQ]; exact e1
  · rw [← hQ] at hd
    have := (t.can_len c2).1 hd
    rw [List.length_take]; omega
  · rw [List.length_take]; omega
  · rw [List.length_take]; omega

theorem divmod_zero (b : Nat) (G : GFd) (t : Tabs G) (vp vq : Value) (p q : List Int) (w : World) (hg : IsGF w b G) (hvp : Sl w vp p) (hvq : Sl w vq q) (hlp : p.length ≤ 200000) (hlq : q.length ≤ 200000) (hz : t.po q = 0) :
    Calls Try.prog 70 #[.pointer (some ⟨b, 0, none⟩), vp, vq] w fun e w' => e = .returned (.tuple #[.slice none 0 0, .slice none 0 0, .int .i64 7]) ∧ Kept w w' := by
  have HZ := hid hz
  clear hz
  go_enter Try.func70, Try.ntmps70
  go_wp2_with (fail)
  refine (canon_any b G t vp p _ hg hvp (by omega)).mono ?_
  rintro e w1 ⟨g1, k1, cap1, l1, rfl, o1, kk1, c1, p1, n1⟩
  have hq1 := hvq.kept kk1
  clear p1
  go_wp2_with (fail)
  refine (canon_any b G t vq q _ (hg.kept kk1) hq1 (by omega)).mono ?_
  rintro e w2 ⟨g2, k2, cap2, l2, rfl, o2, kk2, c2, p2, n2⟩
  have hl2 := o2.len
  have hn : l2 = [] := (t.can_zero c2).1 (by rw [p2, HZ.out])
  subst hn
  subst hl2
  clear p2
  go_wp2_with (fail)
  go_ret3
  exact ⟨rfl, kk1.tr kk2⟩

set_option maxRecDepth 100000 in
set_option maxHeartbeats 8000000 in
theorem divmod_any (b : Nat) (G : GFd) (t : Tabs G) (vp vq : Value) (p q : List Int) (w : World) (hg : IsGF w b G) (hvp : Sl w vp p) (hvq : Sl w vq q) (hlp : p.length ≤ 200000) (hlq : q.length ≤ 200000) (hz : t.po q ≠ 0) :
    Calls Try.prog 70 #[.pointer (some ⟨b, 0, none⟩), vp, vq] w (DivOut G t (t.po p) (t.po q) p.length w) := by
  have HZ := hid hz
  clear hz
  have hbl := hg.lt
  go_enter Try.func70, Try.ntmps70
  go_wp2_with (fail)
  refine (canon_any b G t vp p _ hg hvp (by omega)).mono ?_
  rintro e w1 ⟨g1, k1, cap1, l1, rfl, o1, kk1, c1, p1, n1⟩
  have P1 := hid p1
  clear p1
  have hq1 := hvq.kept kk1
  have hl1 := o1.len
  subst hl1
  obtain ⟨cb1, cb1'⟩ := o1.capb
  go_wp2_with (fail)
  refine (canon_any b G t vq q _ (hg.kept kk1) hq1 (by omega)).mono ?_
  rintro e w2 ⟨g2, k2, cap2, l2, rfl, o2, kk2, c2, p2, n2⟩
  have P2 := hid p2
  have hl2 := o2.len
  subst hl2
  obtain ⟨cb2, cb2'⟩ := o2.capb
  have hn2 : l2 ≠ [] := fun e => HZ.out (by rw [← p2, e, t.po_nil])
  have hpos : 0 < l2.length := List.length_pos_iff.2 hn2
  have HN2 := hid hn2
  clear p2 hn2
  have hk02 := kk1.tr kk2
  have hg2 := hg.kept hk02
  have hg1g2 : g1 < g2 := by have := o1.lt.2; have := o2.lt.1; omega
  have hg2s := o2.lt.2
  have o1' := o1.kept kk2
  have o2' := o2.mono kk1.size
  have HP : Hid (t.po l1 = t.po p) := P1
  have HQ : Hid (t.po l2 = t.po q) := P2
  have C1 := hid c1
  have C2 := hid c2
  clear P1 P2 hvp hvq hq1 o1 o2 c1 c2
  obtain ⟨d, hd⟩ : ∃ d, l2.length = d + 1 := ⟨l2.length - 1, by omega⟩
  obtain ⟨m, hm⟩ : ∃ m, l1.length = m := ⟨_, rfl⟩
  rw [hd] at o2' cb2 n2
  rw [hm] at o1' cb1 n1
  rw [hm, hd]
  have HM := hid hm
  have HD := hid hd
  clear hm hd hpos
  have hcl := o2'.cell (i := d) (by have := HD.out; omega)
  obtain ⟨ld, hld⟩ : ∃ x, x = l2.getD d 0 := ⟨_, rfl⟩
  rw [← hld] at hcl
  have HLD := hid hld
  have hli : Hid (inn G.q ld ≠ 0) := hid (by
    have q0 : 0 < G.q := by have := t.qb; omega
    have := C2.out.2 HN2.out
    rw [HD.out, Nat.add_sub_cancel] at this
    rw [hld, inn_yes (can_range C2.out q0 _)]
    exact this)
  obtain ⟨iv, hiv⟩ : ∃ x, x = invG G ld := ⟨_, rfl⟩
  have HIV : Hid (invG G ld = iv) := hid hiv.symm
  clear hld hiv
  obtain ⟨nq, hnq⟩ : ∃ n, n = m - d := ⟨_, rfl⟩
  have HNQ := hid hnq
  have nq2 : nq ≤ 200000 := by omega
  clear hnq
  have hds := hid (t.dv_start (l2 := l2) C1.out)
  have hU0 : Hid (l1.length + 1 - l2.length = nq) := hid (by rw [HM.out, HD.out, HNQ.out]; omega)
  by_cases hmd : m ≤ d
  · have e0 : (m : Int) - ((d : Int) + 1) < 0 := by omega
    have e1 : (m : Int) - ((d : Int) + 1) + 1 ≤ 0 := by omega
    go_wp2_with (first
      | (go_at_call 48; (with_reducible refine (inv_ok b G ld _ hg2 t hli.out).mono ?_); rintro e w3 ⟨rfl, n3, rfl⟩; rw [HIV.out])
      | (at_make; refine wpList_make_ints rfl _ _ rfl nq _ _ rfl rfl (by have := HNQ.out; omega) (by have := HNQ.out; omega) (by omega) ?_; intro w4 ho hk4))
    have o1w : Own w4 w.heap.size (.slice (some ⟨g1, 0, none⟩) m cap1) l1 := (o1'.drewN n3).kept hk4
    have ouw : Own w4 w.heap.size (.slice (some ⟨w2.heap.size, 0, none⟩) nq nq) (List.replicate nq 0) := ho.mono hk02.size
    have hkw : Kept w w4 := (hk02.drewN n3).tr hk4
    have HK0 : Hid (DvS t l1 l2 (List.replicate nq 0) l1 (l1.length + 1 - l2.length)) := hid (by
      have h := hds.out
      have e : l1.length + 1 - l2.length = 0 := by rw [hU0.out, HNQ.out]; omega
      rw [hU0.out] at h
      rw [e]; exact h)
    go_loopw [11] (fun vi wr => vi = .int .i64 ((m : Int) - ((d : Int) + 1)) ∧ wr = w4) (fun _ _ => 0)
    case atStart => exact ⟨rfl, rfl⟩
    case round =>
      obtain ⟨rfl, rfl⟩ := hrel
      go_wp2_with (first
        | (go_at_call 79; (with_reducible refine (trim_own w2.heap.size nq nq _ (List.replicate nq 0) _ ouw).mono ?_); rintro e w5 ⟨n5, rfl, ht5, m5, rfl⟩; have HT5 := hid ht5; clear ht5)
        | (go_at_call 79; (with_reducible refine (trim_own g1 m cap1 _ l1 _ (o1w.drewN m5)).mono ?_); rintro e w6 ⟨n6, rfl, ht6, m6, rfl⟩; have HT6 := hid ht6; clear ht6))
      go_ret3
      obtain ⟨d1, d2, d3, d4, d5, d6⟩ := div_fin t C2.out HN2.out HP.out HQ.out (by rw [HM.out]; exact n1) HK0.out HT5.out HT6.out
      exact ⟨_, _, _, _, rfl, (ouw.take HT5.out.1).drewN _, (o1w.take HT6.out.1).drewN _, hkw.drewN _, d1, d2, d3, d4, d5, d6⟩
  go_wp2_with (first
    | (go_at_call 48; (with_reducible refine (inv_ok b G ld _ hg2 t hli.out).mono ?_); rintro e w3 ⟨rfl, n3, rfl⟩; rw [HIV.out])
    | (at_make; refine wpList_make_ints rfl _ _ rfl nq _ _ rfl rfl (by have := HNQ.out; omega) (by have := HNQ.out; omega) (by omega) ?_; intro w4 ho hk4))
  have o1w : Own w4 w.heap.size (.slice (some ⟨g1, 0, none⟩) m cap1) l1 := (o1'.drewN n3).kept hk4
  have o2w : Own w4 w.heap.size (.slice (some ⟨g2, 0, none⟩) (d + 1) cap2) l2 := (o2'.drewN n3).kept hk4
  obtain ⟨gq, hgq⟩ : ∃ g, g = w2.heap.size := ⟨_, rfl⟩
  have hgq1 : g2 < gq := by omega
  have hgqb : w.heap.size ≤ gq := by have := hk02.size; omega
  have hg1b : w.heap.size ≤ g1 := o1'.lt.1
  have ho : Own w4 w2.heap.size (.slice (some ⟨w2.heap.size, 0, none⟩) nq nq) (List.replicate nq 0) := ho
  rw [← hgq] at ho
  rw [← hgq]
  have ouw : Own w4 w.heap.size (.slice (some ⟨gq, 0, none⟩) nq nq) (List.replicate nq 0) := ho.mono hgqb
  have hkw : Kept w w4 := (hk02.drewN n3).tr hk4
  have hds' : Hid (DvS t l1 l2 (List.replicate nq 0) l1 0) := hid (by have h := hds.out; rw [hU0.out] at h; exact h)
  clear ho hgq hcl hds hg2 hk02 o1' o2' hk4
  go_loopw [11] (fun vi wr => ∃ (s : Nat) (us rs : List Int), s ≤ nq ∧ vi = .int .i64 ((m : Int) - ((d : Int) + 1) - s) ∧ Hid (DvS t l1 l2 us rs s) ∧ Own wr w.heap.size (.slice (some ⟨g1, 0, none⟩) m cap1) rs ∧ Own wr w.heap.size (.slice (some ⟨g2, 0, none⟩) (d + 1) cap2) l2 ∧ Own wr w.heap.size (.slice (some ⟨gq, 0, none⟩) nq nq) us ∧ Kept w wr) (fun vi _ => (intOf vi + 1).toNat)
  case atStart => exact ⟨0, _, _, by omega, val_int (by simp), hds', o1w, o2w, ouw, hkw⟩
  case round =>
    obtain ⟨s, us, rs, hs, rfl, hdv, or', ol', ou', hkw'⟩ := hrel
    clear o1w o2w ouw hkw hds'
    by_cases hsn : s < nq
    case neg =>
      have es : s = nq := by omega
      have HDV : Hid (DvS t l1 l2 us rs (l1.length + 1 - l2.length)) := hid (by rw [hU0.out, ← es]; exact hdv.out)
      have eneg : (m : Int) - ((d : Int) + 1) - (s : Int) < 0 := by have := HNQ.out; omega
      clear es hsn
      go_wp2_with (first
        | (go_at_call 79; (with_reducible refine (trim_own gq nq nq _ us _ ou').mono ?_); rintro e w5 ⟨n5, rfl, ht5, m5, rfl⟩; have HT5 := hid ht5; clear ht5)
        | (go_at_call 79; (with_reducible refine (trim_own g1 m cap1 _ rs _ (or'.drewN m5)).mono ?_); rintro e w6 ⟨n6, rfl, ht6, m6, rfl⟩; have HT6 := hid ht6; clear ht6))
      go_ret3
      obtain ⟨d1, d2, d3, d4, d5, d6⟩ := div_fin t C2.out HN2.out HP.out HQ.out (by rw [HM.out]; exact n1) HDV.out HT5.out HT6.out
      exact ⟨_, _, _, _, rfl, (ou'.take HT5.out.1).drewN _, (or'.take HT6.out.1).drewN _, hkw'.drewN _, d1, d2, d3, d4, d5, d6⟩
    obtain ⟨n, hn⟩ : ∃ n, m = n + s + (d + 1) := ⟨m - s - (d + 1), by have := HNQ.out; omega⟩
    have ei : (m : Int) - ((d : Int) + 1) - (s : Int) = (n : Int) := by omega
    rw [ei]
    have HNM := hid hn
    have hnq : n < nq := by have := HNQ.out; omega
    have hnd : n + d < m := by omega
    have hrl : Hid (rs.length = m) := hid (by rw [hdv.out.rl, HM.out])
    have hul : Hid (us.length = nq) := hid (by rw [hdv.out.ul, hU0.out])
    have hcr := or'.cell (i := n + d) (by rw [hrl.out]; exact hnd)
    obtain ⟨x, hx⟩ : ∃ z, z = rs.getD (n + d) 0 := ⟨_, rfl⟩
    rw [← hx] at hcr
    have HX := hid hx
    have hcu := ou'.cell (i := n) (by rw [hul.out]; exact hnq)
    have hfu := ou'.frozen n
    have i0 : (0 : Int) ≤ (n : Int) + ((d : Int) + 1) - 1 := by omega
    have i1 : (n : Int) + ((d : Int) + 1) - 1 < (m : Int) := by omega
    have i2 : ((n : Int) + ((d : Int) + 1) - 1).toNat = n + d := by omega
    have i3 : (n : Int) < (nq : Int) := by omega
    have i4 : (0 : Int) ≤ (n : Int) + (d : Int) := by omega
    have i5 : (n : Int) + (d : Int) < (m : Int) := by omega
    have i6 : ((n : Int) + (d : Int)).toNat = n + d := by omega
    have m200 : m ≤ 200000 := by omega
    have hgw := hg.kept hkw'
    obtain ⟨av, hav⟩ : ∃ z, z = mulG G x iv := ⟨_, rfl⟩
    have HAV : Hid (mulG G x iv = av) := hid hav.symm
    have HAE : Hid (av = mulG G (rs.getD (n + l2.length - 1) 0) (invG G (l2.getD (l2.length - 1) 0))) := hid (by
      rw [hav, HX.out, ← HIV.out, HLD.out, HD.out, Nat.add_sub_cancel, show n + (d + 1) - 1 = n + d by omega])
    clear hx hav hn ei hsn
    go_wp2_with (go_at_call 43; (with_reducible refine (mul_any b G x iv _ hgw t).mono ?_); rintro e w5 ⟨rfl, n5, rfl⟩; rw [HAV.out])
    have hne1 : g1 ≠ gq := by omega
    have hne2 : g2 ≠ gq := by omega
    have hne3 : g2 ≠ g1 := by omega
    have hne4 : gq ≠ g1 := by omega
    have ou1 := (ou'.drewN n5).set n av
    have or1 := (or'.drewN n5).setOther ⟨gq, n, none⟩ (.int .i64 av) (fun g k c e => by cases e; exact hne1)
    have ol1 := (ol'.drewN n5).setOther ⟨gq, n, none⟩ (.int .i64 av) (fun g k c e => by cases e; exact hne2)
    have hk1 := Below.setCell (hkw'.drewN n5) (p := ⟨gq, n, none⟩) hgqb (.int .i64 av)
    have hi0 := hid (t.dvi_start (l2 := l2) (a := av) (n := n) hdv.out.rr)
    clear or' ol' ou' hkw' hcr hcu hfu hgw i0 i1 i2 i4 i5 i6
    go_loopw [69] (fun vj wr => ∃ (j : Nat) (rs' : List Int), j ≤ d + 1 ∧ vj = .int .i64 j ∧ Hid (DvI t l2 rs' rs av n j) ∧ Own wr w.heap.size (.slice (some ⟨g1, 0, none⟩) m cap1) rs' ∧ Own wr w.heap.size (.slice (some ⟨g2, 0, none⟩) (d + 1) cap2) l2 ∧ Own wr w.heap.size (.slice (some ⟨gq, 0, none⟩) nq nq) (us.set n av) ∧ Kept w wr) (fun vj _ => d + 1 - (intOf vj).toNat)
    case atStart => exact ⟨0, rs, by omega, rfl, hi0, or1, ol1, ou1, hk1⟩
    case round =>
      obtain ⟨j, rs', hj, rfl, hdi, or', ol', ou', hkw'⟩ := hrel
      clear or1 ol1 ou1 hk1 hi0
      have hgw := hg.kept hkw'
      by_cases hjd : j < d + 1
      · have hrl' : Hid (rs'.length = m) := hid (by rw [hdi.out.rl, hrl.out])
        have hcr := or'.cell (i := n + j) (by rw [hrl'.out]; omega)
        have hfr := or'.frozen (n + j)
        obtain ⟨u, hu⟩ : ∃ z, z = rs'.getD (n + j) 0 := ⟨_, rfl⟩
        rw [← hu] at hcr
        have hcl := ol'.cell (i := j) (by rw [HD.out]; exact hjd)
        obtain ⟨c, hc⟩ : ∃ z, z = l2.getD j 0 := ⟨_, rfl⟩
        rw [← hc] at hcl
        have HST : Hid (DvI t l2 (rs'.set (n + j) (addG G u (negG G (mulG G av c)))) rs av n (j + 1)) := hid (by
          rw [hu, hc]
          exact t.dvi_step hdi.out (by rw [hrl.out]; omega))
        have j0 : (0 : Int) ≤ (n : Int) + (j : Int) := by omega
        have j1 : (n : Int) + (j : Int) < (m : Int) := by omega
        have j2 : ((n : Int) + (j : Int)).toNat = n + j := by omega
        have j4 : (j : Int) < (d : Int) + 1 := by omega
        clear hu hc
        go_wp2_with (fail)
        have w1' : IntKind.i64.wrap ((n : Int) + (j : Int)) = (n : Int) + (j : Int) := IntWalk.i64_in _ (by omega)
        go_region_law (first
          | (go_simp; go_at_call 43; (with_reducible refine (mul_any b G av c _ (by first | exact hgw.drew | exact hgw.drewN _ | exact hgw.drew.drewN _) t).mono ?_); rintro e w6 ⟨rfl, n6, rfl⟩)
          | (go_simp; go_at_call 91; (with_reducible refine (sub_any b G u (mulG G av c) _ (by first | exact hgw.drew | exact hgw.drewN _ | exact hgw.drew.drewN _) t).mono ?_); rintro e w7 ⟨rfl, n7, rfl⟩))
        all_goals
          clear w1'
          go_wp2_with (fail)
          go_roundw
          case rel =>
            refine ⟨j + 1, _, by omega, by go_num, HST, ?_, ?_, ?_, ?_⟩
            · first | exact (or'.drewN _).set _ _ | exact ((or'.drewN _).set _ _).drew | exact (or'.set _ _).drewN _ | exact (or'.set _ _).drew
            · first | exact (ol'.drewN _).setOther ⟨g1, n + j, none⟩ _ (fun g k c e => by cases e; exact hne3) | exact ((ol'.drewN _).setOther ⟨g1, n + j, none⟩ _ (fun g k c e => by cases e; exact hne3)).drew | exact (ol'.setOther ⟨g1, n + j, none⟩ _ (fun g k c e => by cases e; exact hne3)).drewN _
            · first | exact (ou'.drewN _).setOther ⟨g1, n + j, none⟩ _ (fun g k c e => by cases e; exact hne4) | exact ((ou'.drewN _).setOther ⟨g1, n + j, none⟩ _ (fun g k c e => by cases e; exact hne4)).drew | exact (ou'.setOther ⟨g1, n + j, none⟩ _ (fun g k c e => by cases e; exact hne4)).drewN _
            · first | exact Below.setCell (hkw'.drewN _) (p := ⟨g1, n + j, none⟩) hg1b _ | exact (Below.setCell (hkw'.drewN _) (p := ⟨g1, n + j, none⟩) hg1b _).drew | exact Kept.drewN (Below.setCell hkw' (p := ⟨g1, n + j, none⟩) hg1b _) _
          case measure => simp [intOf]; omega
      · have ej : j = d + 1 := by omega
        have HST : Hid (DvS t l1 l2 (us.set n av) rs' (s + 1)) := hid (by
          have h := hdi.out
          rw [ej, ← HD.out, HAE.out] at h
          rw [HAE.out]
          exact t.dv_step C2.out HN2.out hdv.out (by rw [HM.out, HD.out]; have := HNM.out; omega) h)
        have hst : Hid ((n : Int) - 1 = (m : Int) - ((d : Int) + 1) - ((s + 1 : Nat) : Int)) := hid (by have := HNM.out; omega)
        have hs1 : s + 1 ≤ nq := by have := HNM.out; have := HNQ.out; omega
        clear ej
        go_wp2_with (fail)
        go_roundw
        case rel => exact ⟨s + 1, us.set n av, rs', hs1, val_int hst.out, HST, or', ol', ou', hkw'⟩
        case measure => simp [intOf]
end Go.Proofs.Ytmnbcnbhnclkhaa
