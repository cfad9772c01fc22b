/- The walk of Bezout of polynomials. Conditions: the field lies in memory with its tables; lengths are bounded. -/
import Derived.Test.YtjoednmoginhpaaKh
import Derived.Test.YtjoednmoginhpaaMz
import Derived.Test.YtjoednmoginhpaaKx
namespace Go.Proofs.Ytjoednmoginhpaa
open Go.RowKit Cw

/-- The outcome of Bezout. -/
def OutB (G : GFd) (t : Tabs G) (P Q : Pl (Rs t.fs.mon)) (w : World) (e : Ending) (w' : World) : Prop :=
  ∃ vd vu vv ld lu lv, e = .returned (.tuple #[vd, vu, vv]) ∧ Own w' w.heap.size vd ld ∧ Own w' w.heap.size vu lu ∧ Own w' w.heap.size vv lv ∧ Kept w w' ∧ Cano G ld ∧ Cano G lu ∧ Cano G lv ∧
    t.pl ld = Pl.gcd P Q ∧ t.pl lu * P + t.pl lv * Q = Pl.gcd P Q ∧ (P = 0 → Q = 0 → lu = [] ∧ lv = []) ∧ (P ≠ 0 → Q = 0 → lu.length = 1 ∧ lv = []) ∧ (Q ≠ 0 → lu.length + (Pl.gcd P Q).ln ≤ Q.ln)
set_option maxRecDepth 100000 in
set_option maxHeartbeats 4000000 in
theorem bezout_p (b : Nat) (G : GFd) (t : Tabs G) (vp vq : Value) (p q : List Int) (w : World) (hg : IsGF w b G) (hvp : Sl w vp p) (hvq : Sl w vq q) (hlp : p.length ≤ 10000) (hlq : q.length ≤ 10000) :
    Calls Try.prog 60 #[.pointer (some ⟨b, 0, none⟩), vp, vq] w (OutB G t (t.pl p) (t.pl q) w) := by
  go_enter Try.func60, Try.ntmps60
  go_wp2_with (fail)
  refine (canon_p b G t vp p _ hg hvp (by omega)).mono ?_
  rintro e w1 ⟨v1, l1, rfl, o1, k1, c1, p1⟩
  have hn1 : l1.length ≤ 10000 := by have := t.can_ln' c1 p1; have := t.pl_ln_le p; omega
  have hvq1 := hvq.kept k1
  have hg1 := hg.kept k1
  have P1 := hid p1
  clear p1 hvp hvq hg
  go_wp2_with (fail)
  refine (canon_p b G t vq q _ hg1 hvq1 (by omega)).mono ?_
  rintro e w2 ⟨v2, l2, rfl, o2, k2, c2, p2⟩
  have hn2 : l2.length ≤ 10000 := by have := t.can_ln' c2 p2; have := t.pl_ln_le q; omega
  have P2 := hid p2
  have o1' := o1.kept k2
  have o2' := o2.mono k1.size
  have hk02 := k1.tr k2
  have hg2 := hg1.kept k2
  clear p2 o1 o2 k1 k2 hg1 hvq1
  have hz2 : w.heap.size ≤ w2.heap.size := hk02.size
  by_cases hq0 : l2 = []
  · subst hq0
    have HQ : Hid (t.pl q = 0) := hid (by rw [← P2.out, t.pl_nil])
    obtain ⟨a2, cp2, rfl, _, _⟩ := o2'.sh
    by_cases hp0 : l1 = []
    · subst hp0
      have HP : Hid (t.pl p = 0) := hid (by rw [← P1.out, t.pl_nil])
      obtain ⟨a1, cp1, rfl, _, _⟩ := o1'.sh
      go_wp2_with (fail)
      go_ret3
      refine ⟨_, _, _, [], [], [], rfl, own_nil _ _, own_nil _ _, own_nil _ _, hk02, can_nil G, can_nil G, can_nil G, ?_, ?_, fun _ _ => ⟨rfl, rfl⟩, fun h => absurd HP.out h, fun h => absurd HQ.out h⟩
      · rw [HP.out, HQ.out, t.pl_nil, Pl.gcd_zero, Pl.mon_zero]
      · rw [HP.out, HQ.out, t.pl_nil, Pl.gcd_zero, Pl.mon_zero, Rg.zero_mul, Rg.add_zero]
    · obtain ⟨g1, cp1, rfl, h1, h2, h3, h4⟩ := o1'.sh' hp0
      have hp : t.pl p ≠ 0 := fun e => hp0 ((t.pl_zero c1).1 (P1.out.trans e))
      have H1 : Hid (t.pl l1 ≠ 0) := hid (by rw [P1.out]; exact hp)
      have HP := hid hp
      obtain ⟨m1, m2, m3⟩ := t.mon_list c1 hp0
      obtain ⟨d, hd⟩ : ∃ d, l1.length = d + 1 := ⟨l1.length - 1, by have := List.length_pos_iff.2 hp0; omega⟩
      have hcell := o1'.cell (i := d) (by omega)
      have hei := t.e_invG m1
      rw [hd, Nat.add_sub_cancel] at m1 hei
      have hlc : t.e (l1.getD d 0) = (t.pl p).lc := by unfold Pl.lc; rw [← P1.out, t.can_ln c1, hd, Nat.add_sub_cancel]; rfl
      obtain ⟨z, hz⟩ : ∃ z, z = l1.getD d 0 := ⟨_, rfl⟩
      rw [← hz] at hcell m1 hlc hei
      have M1 := hid m1
      have HE : Hid (t.e (invG G z) = Fd.inv (t.pl p).lc) := hid (by rw [hei, hlc])
      have HD := hid hd
      have s1 := o1'.sl
      rw [hd] at s1 h1 hn1 ⊢
      have e1 : ((d + 1 : Nat) : Int) - 1 = (d : Int) := by omega
      have e2 : (d : Int) + 1 - 1 = (d : Int) := by omega
      have e3 : (d : Int).toNat = d := by omega
      have e4 : (d : Int) < (d : Int) + 1 := by omega
      have t1 : (((d + 1 : Nat) : Int) == 0) = false := beq0 (by omega)
      have t2 : ((d : Int) + 1 == 0) = false := by have := beq0 (n := d + 1) (by omega); simpa using this
      clear hp hp0 hz m1 m2 m3 hd hlc hei
      go_wp2_with (first
        | (go_at_call 44; (with_reducible refine (monic_p b G t _ l1 _ hg2 s1 (by rw [HD.out]; omega) H1.out).mono ?_); rintro e w3 ⟨v3, l3, rfl, o3, k3, c3, p3⟩; have P3 := hid p3; clear p3; have hcell := (Kept.cell' k3 h4).trans hcell; have hg3 := hg2.kept k3; have hz3 := k3.size)
        | (go_at_call 64; (with_reducible refine (inv_ok b G z _ hg3 t M1.out).mono ?_); rintro e w4 ⟨rfl, n4, rfl⟩; have kA := (kept_drewN w3 n4).tr (kept_alloc (w3.drewN n4) (.cells #[.int .i64 (invG G z)] 3)); have oA := own_one (w := w3.drewN n4) (B := w.heap.size) (x := invG G z) (by show w.heap.size ≤ w3.heap.size; omega)))
      go_ret3
      refine ⟨_, _, _, l3, [invG G z], [], rfl, (o3.mono hz2).kept kA, oA, own_nil _ _, (hk02.tr k3).tr kA, c3, can_unit ?_ (t.inv_nz M1.out), can_nil G, ?_, ?_, fun h => absurd h HP.out, fun _ _ => ⟨rfl, rfl⟩, fun h => absurd HQ.out h⟩
      · exact t.inv_bd _
      · rw [P3.out, P1.out, HQ.out, Pl.gcd_zero]
      · rw [t.pl_single, HE.out, HQ.out, Pl.gcd_zero, t.pl_nil, Rg.zero_mul, Rg.add_zero]; rfl
  have hq : t.pl q ≠ 0 := fun e => hq0 ((t.pl_zero c2).1 (P2.out.trans e))
  have HQ := hid hq
  have H2 : Hid (t.pl l2 ≠ 0) := hid (by rw [P2.out]; exact hq)
  obtain ⟨a2, cp2, rfl, s2, s2'⟩ := o2'.sh
  have S1 := o1'.sl
  have S2 := o2'.sl
  have t2 : ((l2.length : Int) == 0) = false := beq0 (List.length_pos_iff.2 hq0)
  have kA := kept_alloc w2 (.cells #[.int .i64 1] 3)
  have oA := own_one (w := w2) (B := w.heap.size) (x := 1) hz2
  have kB := kA.tr (kept_alloc (w2.alloc (.cells #[.int .i64 1] 3)) (.cells #[] 3))
  have oB := oA.kept (kept_alloc (w2.alloc (.cells #[.int .i64 1] 3)) (.cells #[] 3))
  have oC : Own ((w2.alloc (.cells #[.int .i64 1] 3)).alloc (.cells #[] 3)) w.heap.size (.slice (some ⟨w2.heap.size + 1, 0, none⟩) 0 0) [] := by
    have := own_zero (w := w2.alloc (.cells #[.int .i64 1] 3)) (B := w.heap.size) (by simp; omega)
    simpa using this
  have hB0 : Hid (Pl.Bz (t.pl p) (t.pl q) (t.pl l1) (t.pl l2) (t.pl [1]) (t.pl [])) := hid (by rw [P1.out, P2.out, t.pl_one, t.pl_nil]; exact Pl.bz_start _ _)
  have o1B := o1'.kept kB
  have o2B := o2'.kept kB
  have hn2q : (t.pl q).ln ≤ 10000 := by have := t.pl_ln_le q; omega
  clear hq hq0 kA oA
  go_wp2_with (fail)
  go_loopw [11, 12, 13, 14] (fun va vb vs vt wr => ∃ (la lb ls lt : List Int) (ab : Option Addr) (cpb : Nat), vb = .slice ab lb.length cpb ∧ lb.length ≤ cpb ∧ cpb ≤ 9223372036854775807 ∧ Own wr w.heap.size va la ∧ Own wr w.heap.size vb lb ∧ Own wr w.heap.size vs ls ∧ Own wr w.heap.size vt lt ∧ Kept w2 wr ∧ Cano G la ∧ Cano G lb ∧ Cano G ls ∧ Cano G lt ∧
      Hid (Pl.Bz (t.pl p) (t.pl q) (t.pl la) (t.pl lb) (t.pl ls) (t.pl lt)) ∧ la.length ≤ 10000 ∧ lb.length ≤ 10000) (fun _ vb _ _ _ => lenV vb)
  case atStart => exact ⟨l1, l2, [1], [], _, _, rfl, s2, s2', o1B, o2B, oB, oC, kB, c1, c2, cano_one t, can_nil G, hB0, hn1, hn2⟩
  case round =>
    obtain ⟨la, lb, ls, lt, ab, cpb, rfl, hb1, hb2, oa, ob, os, ot, hkw, ca, cb, cs, ct, hB, hna, hnb⟩ := hrel
    clear o1B o2B oB oC kB hB0
    have hgw := hg2.kept hkw
    have hzw : w.heap.size ≤ wr.heap.size := (hk02.tr hkw).size
    by_cases h0 : lb = []
    · subst h0
      have hB' := hB.out
      rw [t.pl_nil] at hB'
      obtain ⟨ha0, hg0⟩ := Pl.bz_end hB' HQ.out
      have hane : la ≠ [] := fun e => ha0 (by rw [e, t.pl_nil])
      obtain ⟨ga, cpa, rfl, j1, j2, j3, j4⟩ := oa.sh' hane
      obtain ⟨m1, _, _⟩ := t.mon_list ca hane
      obtain ⟨d, hd⟩ : ∃ d, la.length = d + 1 := ⟨la.length - 1, by have := List.length_pos_iff.2 hane; omega⟩
      have hcell := oa.cell (i := d) (by omega)
      have hei := t.e_invG m1
      rw [hd, Nat.add_sub_cancel] at m1 hei
      have hlc : t.e (la.getD d 0) = (t.pl la).lc := by unfold Pl.lc; rw [t.can_ln ca, hd, Nat.add_sub_cancel]; rfl
      obtain ⟨z, hz⟩ : ∃ z, z = la.getD d 0 := ⟨_, rfl⟩
      rw [← hz] at hcell m1 hlc hei
      have M1 := hid m1
      have HE : Hid (Pl.c (t.e (invG G z)) * t.pl la = Pl.gcd (t.pl p) (t.pl q)) := hid (by rw [hei, hlc, hg0])
      have HB := hid hB'
      have HD := hid hd
      have s1 := oa.sl
      have ss := os.sl
      have hns : ls.length ≤ 10001 := by have h1 := hB'.ls; have h2 := t.can_ln' cs rfl; omega
      rw [hd] at s1 j1 hna ⊢
      have e1 : ((d + 1 : Nat) : Int) - 1 = (d : Int) := by omega
      have e2 : (d : Int) + 1 - 1 = (d : Int) := by omega
      have e3 : (d : Int).toNat = d := by omega
      have e4 : (d : Int) < (d : Int) + 1 := by omega
      clear ha0 hg0 hane hz m1 hd hlc hei hB' hB
      go_wp2_with (fail)
      refine (inv_ok b G z _ hgw t M1.out).mono ?_
      rintro e w3 ⟨rfl, n3, rfl⟩
      have kC := kept_drewN wr n3
      go_wp2_with (fail)
      refine (pscale_p b G t _ la _ (invG G z) (hgw.kept kC) (s1.kept kC) (by rw [HD.out]; omega)).mono ?_
      rintro e w4 ⟨v4, l4, rfl, o4, k4, c4, p4⟩
      have P4 : Hid (t.pl l4 = Pl.gcd (t.pl p) (t.pl q)) := hid (by rw [p4, HE.out])
      have hL := Pl.bz_last HB.out HQ.out (y := t.e (invG G z)) (d := t.pl l4) (x := Pl.rem (Pl.c (t.e (invG G z)) * t.pl ls) (Pl.quo (t.pl q) (t.pl l4))) p4 P4.out rfl
      have HL := hid hL
      have kD := kC.tr k4
      have hn4 : l4.length ≤ 10000 := by have := t.can_ln' c4 p4; have := Pl.ln_cmul_le (t.e (invG G z)) (t.pl la); have := t.pl_ln_le la; have := HD.out; omega
      have H4 : Hid (t.pl l4 ≠ 0) := hid (fun e => HQ.out (by rw [P4.out] at e; exact (Pl.gcd_eq_zero.1 e).2))
      have s4 := o4.sl
      clear hL p4 k4 kC
      go_wp2_with (fail)
      refine (divmod_p b G t _ _ l2 l4 _ (hgw.kept kD) (S2.kept (hkw.tr kD)) s4 (by omega) (by omega) H4.out).mono ?_
      rintro e w5 ⟨vu5, vr5, lu5, lr5, rfl, ou5, or5, k5, cu5, cr5, pu5, pr5⟩
      have PU5 : Hid (t.pl lu5 = Pl.quo (t.pl q) (t.pl l4)) := hid (by rw [pu5, P2.out])
      have kE := kD.tr k5
      have hn5 : lu5.length ≤ 10001 := by
        have h1 := t.can_ln' cu5 PU5.out
        have h2 := HL.out.2.2
        have h3 := Pl.quo_len (t.pl q) H4.out h2
        omega
      have H5 : Hid (t.pl lu5 ≠ 0) := hid (by rw [PU5.out]; exact HL.out.2.2)
      have s5 := ou5.sl
      clear pu5 pr5 or5 cr5
      go_wp2_with (fail)
      refine (pscale_p b G t _ ls _ (invG G z) (hgw.kept kE) (ss.kept kE) (by omega)).mono ?_
      rintro e w6 ⟨v6, l6, rfl, o6, k6, c6, p6⟩
      have P6 := hid p6
      have kF := kE.tr k6
      have hn6 : l6.length ≤ 10001 := by have := t.can_ln' c6 p6; have := Pl.ln_cmul_le (t.e (invG G z)) (t.pl ls); have := t.pl_ln_le ls; omega
      have s6 := o6.sl
      clear p6
      go_wp2_with (fail)
      refine (divmod_p b G t _ _ l6 lu5 _ (hgw.kept kF) s6 (s5.kept k6) (by omega) (by omega) H5.out).mono ?_
      rintro e w7 ⟨vu7, vr7, lu7, lr7, rfl, ou7, or7, k7, cu7, cr7, pu7, pr7⟩
      have PR7 : Hid (t.pl lr7 = Pl.rem (Pl.c (t.e (invG G z)) * t.pl ls) (Pl.quo (t.pl q) (t.pl l4))) := hid (by rw [pr7, P6.out, PU5.out])
      have kG := kF.tr k7
      have hn7 : lr7.length + (Pl.gcd (t.pl p) (t.pl q)).ln ≤ (t.pl q).ln := by have := HL.out.2.1; rw [← PR7.out, P4.out] at this; have := t.can_ln' cr7 rfl; omega
      have s7 := or7.sl
      have O7 := or7.mono (show w.heap.size ≤ w6.heap.size from (Nat.le_trans hzw kF.size))
      clear pu7 pr7 ou7 cu7
      go_wp2_with (fail)
      refine (product_p b G t _ _ lr7 l1 _ (hgw.kept kG) s7 (S1.kept (hkw.tr kG)) (by omega) (by omega)).mono ?_
      rintro e w8 ⟨v8, l8, rfl, o8, k8, c8, p8⟩
      have P8 : Hid (t.pl l8 = t.pl lr7 * t.pl p) := hid (by rw [p8, P1.out])
      have kH := kG.tr k8
      have hn8 : l8.length ≤ 50000 := by have := t.can_ln' c8 p8; have := Pl.ln_mul_le (t.pl lr7) (t.pl l1); have := t.pl_ln_le lr7; have := t.pl_ln_le l1; omega
      have s8 := o8.sl
      clear p8
      go_wp2_with (fail)
      refine (psub_p b G t _ _ l4 l8 _ (hgw.kept kH) (s4.kept (((k5.tr k6).tr k7).tr k8)) s8 (by omega) (by omega)).mono ?_
      rintro e w9 ⟨v9, l9, rfl, o9, k9, c9, p9⟩
      have P9 : Hid (t.pl l9 = t.pl l4 - t.pl lr7 * t.pl p) := hid (by rw [p9, P8.out])
      have kI := kH.tr k9
      have hn9 : l9.length ≤ 50000 := by have := t.can_ln' c9 p9; have := Pl.ln_sub_le (p := t.pl l4) (q := t.pl l8) (n := 50000) (by have := t.pl_ln_le l4; omega) (by have := t.pl_ln_le l8; omega); omega
      have s9 := o9.sl
      clear p9
      go_wp2_with (fail)
      refine (divmod_p b G t _ _ l9 l2 _ (hgw.kept kI) s9 (S2.kept (hkw.tr kI)) (by omega) (by omega) H2.out).mono ?_
      rintro e w10 ⟨vu10, vr10, lu10, lr10, rfl, ou10, or10, k10, cu10, cr10, pu10, pr10⟩
      have PU10 : Hid (t.pl lu10 = Pl.quo (t.pl l4 - t.pl lr7 * t.pl p) (t.pl q)) := hid (by rw [pu10, P9.out, P2.out])
      have O10 := ou10.mono (show w.heap.size ≤ w9.heap.size from (Nat.le_trans hzw kI.size))
      have O7' := O7.kept ((k8.tr k9).tr k10)
      have O4' := (o4.mono (show w.heap.size ≤ (wr.drewN n3).heap.size from hzw)).kept (((((k5.tr k6).tr k7).tr k8).tr k9).tr k10)
      have kJ := (hk02.tr hkw).tr (kI.tr k10)
      clear pu10 pr10 or10 cr10
      go_wp2_with (fail)
      go_ret3
      refine ⟨_, _, _, l4, lr7, lu10, rfl, O4', O7', O10, kJ, c4, cr7, cu10, P4.out, ?_, fun _ h => absurd h HQ.out, fun _ h => absurd h HQ.out, fun _ => hn7⟩
      have := HL.out.1
      rw [← PR7.out] at this
      rw [PU10.out, this, P4.out]
    · have hpos := List.length_pos_iff.2 h0
      have hz : t.pl lb ≠ 0 := fun e => h0 ((t.pl_zero cb).1 e)
      have HZ := hid hz
      have sa := oa.sl
      have sb := ob.sl
      have ss := os.sl
      have st := ot.sl
      have tp : (0 : Int) < (lb.length : Int) := by omega
      have hns : ls.length ≤ 10001 := by have h1 := hB.out.ls; have h2 := t.can_ln' cs rfl; omega
      have hnt : lt.length ≤ 10001 := by
        have h2 := t.can_ln' ct rfl
        rcases hB.out.lu with h1 | h1
        · rw [h1, Pl.ln_zero] at h2; omega
        · omega
      clear h0 hz
      go_wp2_with (fail)
      refine (divmod_p b G t _ _ la lb _ hgw sa sb (by omega) (by omega) HZ.out).mono ?_
      rintro e w3 ⟨vu, vr, lu, lr, rfl, ou, orr, k3, cu, cr, pu, pr⟩
      have PU := hid pu
      have PR := hid pr
      obtain ⟨a3, cp3, rfl, s3, s3'⟩ := orr.sh
      have hlr : lr.length < lb.length := by
        have h1 := t.can_ln' cr PR.out
        have h2 := Pl.rem_lt (t.pl la) HZ.out
        rw [t.can_ln cb] at h2
        omega
      have hlu : lu.length ≤ 10001 := by
        have h1 := t.can_ln' cu PU.out
        by_cases h2 : Pl.quo (t.pl la) (t.pl lb) = 0
        · rw [h2, Pl.ln_zero] at h1; omega
        · have h3 := Pl.quo_len (t.pl la) HZ.out h2
          have h4 := t.pl_ln_le la
          omega
      have su := ou.sl
      clear pu pr
      go_wp2_with (fail)
      refine (product_p b G t _ _ lu lt _ (hgw.kept k3) su (st.kept k3) (by omega) (by omega)).mono ?_
      rintro e w4 ⟨v4, l4, rfl, o4, k4, c4, p4⟩
      have P4 := hid p4
      have kD := k3.tr k4
      have hn4 : l4.length ≤ 50000 := by have := t.can_ln' c4 p4; have := Pl.ln_mul_le (t.pl lu) (t.pl lt); have := t.pl_ln_le lu; have := t.pl_ln_le lt; omega
      have s4 := o4.sl
      clear p4
      go_wp2_with (fail)
      refine (psub_p b G t _ _ ls l4 _ (hgw.kept kD) (ss.kept kD) s4 (by omega) (by omega)).mono ?_
      rintro e w5 ⟨v5, l5, rfl, o5, k5, c5, p5⟩
      have hB5 : Hid (Pl.Bz (t.pl p) (t.pl q) (t.pl lb) (t.pl lr) (t.pl lt) (t.pl l5)) := hid (by
        rw [p5, P4.out, PU.out, PR.out]
        exact Pl.bz_step hB.out HZ.out)
      have kE := kD.tr k5
      have ob5 := ob.kept kE
      have or5 := (orr.mono hzw).kept (k4.tr k5)
      have ot5 := ot.kept kE
      have O5 := o5.mono (show w.heap.size ≤ w4.heap.size from Nat.le_trans hzw kD.size)
      clear p5
      go_wp2_with (fail)
      go_roundw
      case rel => exact ⟨lb, lr, lt, l5, _, _, rfl, s3, s3', ob5, or5, ot5, O5, hkw.tr kE, cb, cr, ct, c5, hB5, hnb, by omega⟩
      case measure => simpa [lenV] using hlr
end Go.Proofs.Ytjoednmoginhpaa
