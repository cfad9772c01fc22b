/- The walks of the reference's DivMod, Rem, Monic and Gcd of polynomials. Conditions: a field's description; lengths are bounded. -/
import Derived.Test.YtmnbcnbhnclkhaaQc
namespace Go.Proofs.Ytmnbcnbhnclkhaa
open Go.RowKit Cw

/-- The world in which the walk stands. -/
def CurR (_ : World) : Prop := True
theorem Kept.fromR {c a b : World} (_ : CurR c) (h : Kept c a) (k : Kept a b) : Kept c b := h.tr k
theorem curR (w : World) : CurR w := trivial
/-- The slice does not begin at block b. -/
def NotAt (v : Value) (b : Nat) : Prop := ∀ g n c, v = .slice (some ⟨g, 0, none⟩) n c → g ≠ b
theorem notAt_own {w : World} {B b : Nat} {v : Value} {xs : List Int} (h : Own w B v xs) (hb : b < B) : NotAt v b := fun g n c e => by
  subst e
  have := h.lt.1
  omega
theorem notAt_old {w : World} {B b : Nat} {v : Value} {xs : List Int} (h : Own w B v xs) (hb : w.heap.size ≤ b) : NotAt v b := fun g n c e => by
  subst e
  have := h.lt.2
  omega
def lenW : Value → Nat | .slice _ n _ => n | _ => 0
/-- What a division by the reference hands back. -/
def OutR (G : GFd) (t : Tabs G) (P Q : Pl (Rs t.fs.mon)) (w : World) (e : Ending) (w' : World) : Prop :=
  ∃ vu vr lu lr, e = .returned (.tuple #[vu, vr]) ∧ Own w' w.heap.size vu lu ∧ Own w' w.heap.size vr lr ∧ Kept w w' ∧ Cano G lu ∧ Cano G lr ∧ t.pl lu = Pl.quo P Q ∧ t.pl lr = Pl.rem P Q
/-- One step of a long division: the top coefficient goes. -/
theorem rdv_len {G : GFd} (t : Tabs G) {R Q : Pl (Rs t.fs.mon)} {a : Rs t.fs.mon} {n d : Nat} (hQ : Q.ln ≤ d + 1) (hR : R.ln ≤ n + d + 1) (ha : a * Q.a d = R.a (n + d)) : (R - Pl.c a * Q * Pl.x n).ln ≤ n + d := by
  have h1 : (Pl.c a * Q * Pl.x n).ln ≤ n + d + 1 := by
    have h2 := Pl.ln_mul_le (Pl.c a * Q) (Pl.x n)
    have h3 := Pl.ln_cmul_le a Q
    rw [Pl.ln_x] at h2
    omega
  refine Pl.ln_le.2 (PS.dl_pred (Pl.ln_le.1 (Pl.ln_sub_le hR h1)) ?_)
  show R.a (n + d) - (Pl.c a * Q * Pl.x n).a (n + d) = 0
  rw [Rg.mul_comm (Pl.c a * Q), Pl.x_mul_at, if_neg (by omega), show n + d - n = d by omega, Pl.c_mul_at, ha, Rg.sub_self]
theorem rdv_eq {α : Type} [Cw.Fd α] {P U Q R : Pl α} (a X : Pl α) (h : P = U * Q + R) : P = (U + a * X) * Q + (R - a * Q * X) := by
  rw [h, Rg.add_mul, Rg.sub_def]
  have : a * X * Q = a * Q * X := by ac_rfl
  rw [this]
  generalize a * Q * X = z
  generalize U * Q = y
  have : y + z + (R + -z) = y + R + (z + -z) := by ac_rfl
  rw [this, Rg.add_neg, Rg.add_zero]
theorem rdv_us {G : GFd} (t : Tabs G) {us : List Int} {n : Nat} (hn : n < us.length) (hz : us.getD n 0 = 0) (a : Int) : t.pl (us.set n a) = t.pl us + Pl.c (t.e a) * Pl.x n := Pl.ext (by
  show t.po (us.set n a) = t.po us + PS.C (t.e a) * PS.X n
  rw [t.po_set hn, hz, t.e_zero, Rg.sub_zero])
set_option maxRecDepth 100000 in
set_option maxHeartbeats 8000000 in
theorem rDivMod_p (G : GFd) (t : Tabs G) (P M : Int) (mod : List Int) (vm : Value) (vp vq : Value) (p q : List Int) (w : World) (ho : Hid (Of G P M mod)) (hvm : Sl w vm mod) (hvp : Sl w vp p) (hvq : Sl w vq q) (hlp : p.length ≤ 50000) (hlq : q.length ≤ 50000) (hz : t.pl q ≠ 0) :
    Calls Try.prog 51 #[.agg #[.int .i64 P, .int .i64 M, vm], vp, vq] w (OutR G t (t.pl p) (t.pl q) w) := by
  have hk0 := kept_alloc w (.cells #[.int .i64 P, .int .i64 M, vm] 24)
  have hbx := boxF_new w P M vm 24
  have smv := hvm.kept hk0
  have svp := hvp.kept hk0
  have svq := hvq.kept hk0
  have HZ1 : (w.alloc (.cells #[.int .i64 P, .int .i64 M, vm] 24)).heap.size = w.heap.size + 1 := by simp
  have HZ1 := hid HZ1
  obtain ⟨w1, hw1⟩ : ∃ w1, w1 = w.alloc (.cells #[.int .i64 P, .int .i64 M, vm] 24) := ⟨_, rfl⟩
  rw [← hw1] at hk0 hbx smv HZ1 svp svq
  have HZ := hid hz
  clear hz
  go_enter Try.func51, Try.ntmps51
  go_wp2_with (fail)
  rw [← hw1]
  clear hw1
  refine (rCanon_p G t P M mod vm vq q _ ho svq (by omega)).mono ?_
  rintro e w2 ⟨v2, l2, rfl, o2, k2, c2, p2⟩
  have hne : l2 ≠ [] := fun e => HZ.out (by rw [← p2, e, t.pl_nil])
  have hn2 : l2.length ≤ 50000 := by have := t.can_ln' c2 p2; have := t.pl_ln_le q; omega
  obtain ⟨g2, cp2, rfl, s2, s2', _, hg2⟩ := o2.sh' hne
  obtain ⟨d, hd⟩ : ∃ d, l2.length = d + 1 := ⟨l2.length - 1, by have := List.length_pos_iff.2 hne; omega⟩
  have P2 := hid p2
  have hcl := o2.cell (i := d) (by omega)
  obtain ⟨ld, hld⟩ : ∃ x, x = l2.getD d 0 := ⟨_, rfl⟩
  rw [← hld] at hcl
  have hin : inn G.q ld ≠ 0 := by
    rw [hld, inn_yes (t.can_range' c2 d)]
    have := c2.2 hne
    rwa [hd, Nat.add_sub_cancel] at this
  have HIN := hid hin
  have HLD := hid hld
  have HD := hid hd
  have S2 := o2.sl
  rw [hd] at S2 s2 hn2 ⊢
  have b2 := hbx.kept k2
  have x0 := b2.h0
  have x1 := b2.h1
  have x2 := b2.h2
  clear p2 hne hd hld hin
  go_wp2_with (fail)
  refine (rCanon_p G t P M mod vm vp p _ ho (svp.kept k2) (by omega)).mono ?_
  rintro e w3 ⟨v3, l1, rfl, o1, k3, c1, p1⟩
  have hn1 : l1.length ≤ 50000 := by have := t.can_ln' c1 p1; have := t.pl_ln_le p; omega
  obtain ⟨a1, cp1, rfl, s1, s1'⟩ := o1.sh
  have P1 := hid p1
  have hk13 := k2.tr k3
  have hbw := hbx.kept hk13
  have y0 := hbw.h0
  have y1 := hbw.h1
  have y2 := hbw.h2
  have hcl3 := (Kept.cell' k3 hg2).trans hcl
  have hg23 : g2 < w3.heap.size := Nat.lt_of_lt_of_le hg2 k3.size
  have i0 : (0 : Int) ≤ (d : Int) := by omega
  have i1 : (d : Int) < (d : Int) + 1 := by omega
  have i2 : (d : Int).toNat = d := by omega
  obtain ⟨iv, hiv⟩ : ∃ x, x = invG G ld := ⟨_, rfl⟩
  have HIV : Hid (invG G ld = iv) := hid hiv.symm
  clear p1 x0 x1 x2 hiv hcl
  go_wp2_with (fail)
  have hkc := Kept.rfl' w3
  go_region_held3 (fun w' => w'.cell? ⟨w.heap.size, 0, none⟩ = some (.int .i64 P) ∧ w'.cell? ⟨w.heap.size, 1, none⟩ = some (.int .i64 M) ∧ w'.cell? ⟨w.heap.size, 2, none⟩ = some vm ∧ w'.cell? ⟨g2, d, none⟩ = some (.int .i64 ld)) (first | (simp [go_sem]; done) | (simp [*]; done))
    (first
      | (go_at_call 59; (with_reducible refine (rInv_p G t P M mod vm ld _ ho (smv.kept (hk13.tr (by first | exact hkc | exact hkc.tr (kept_drew _) | exact hkc.tr (kept_drewN _ _))))).mono ?_); rintro e wx ⟨rfl, kx⟩; rw [HIV.out]; have hkn := Kept.tr (b := _) (by first | exact hkc | exact hkc.tr (kept_drew _) | exact hkc.tr (kept_drewN _ _)) kx; clear hkc kx; have hkc := hkn; clear hkn; have bxx := hbw.kept hkc; have d0 := bxx.h0; have d1 := bxx.h1; have d2 := bxx.h2; have d3 := (Kept.cell' hkc hg23).trans hcl3))
  obtain ⟨nq, hnq⟩ : ∃ n, n = l1.length - d := ⟨_, rfl⟩
  have HNQ := hid hnq
  have nq2 : nq ≤ 50000 := by omega
  obtain ⟨w4, hw4⟩ : ∃ x, x = wx := ⟨_, rfl⟩
  subst hw4
  have hk14 := hk13.tr hkc
  have hk24 := k3.tr hkc
  have hwb4 : w.heap.size ≤ w4.heap.size := by have := hk0.size; have := hk14.size; omega
  have o14 := o1.kept hkc
  have o14 := own_up o14 (B' := w.heap.size) (fun g n c e => by cases e; have := o1.lt.1; have := hk0.size; have := k2.size; omega)
  clear hnq y0 y1 y2 hbw hkc
  by_cases hmd : (l1.length : Int) - (d : Int) < 0
  · go_wp2_with (at_make; refine wpList_make_ints rfl _ _ rfl nq _ _ rfl rfl (by have := HNQ.out; omega) (by have := HNQ.out; omega) (by omega) ?_; intro w5 ho5 hk5)
    go_loopw [8] (fun vr wr => ∃ (rs us : List Int) (a3 : Option Addr) (c3 : Nat), vr = .slice a3 rs.length c3 ∧ Own wr w.heap.size vr rs ∧ Own wr w4.heap.size (.slice (some ⟨w4.heap.size, 0, none⟩) nq nq) us ∧ NotAt vr w4.heap.size ∧ Kept w4 wr ∧ Cano G rs ∧ rs.length ≤ l1.length ∧ Hid (us.length = nq) ∧
        Hid (t.pl p = t.pl us * t.pl q + t.pl rs) ∧ Hid (∀ i, i + d < rs.length → us.getD i 0 = 0)) (fun vr _ => lenW vr)
    case atStart => exact ⟨l1, List.replicate nq 0, _, _, rfl, o14.kept hk5, ho5, notAt_old o14 (Nat.le_refl _), hk5, c1, Nat.le_refl _, hid (by simp), hid (by rw [t.pl_zeros, Rg.zero_mul, Rg.zero_add, P1.out]), hid (fun i _ => by
      by_cases hi : i < nq
      · simp [hi]
      · rw [ld_out (by simp; omega)])⟩
    case round =>
      obtain ⟨rs, us, a3, c3, rfl, hrs, hus, hna, hkw, crs, hrl, hul, hpe, huz⟩ := hrel
      clear ho5 hk5 o14
      have hbw := hbx.kept (hk14.tr hkw)
      have z0 := hbw.h0
      have z1 := hbw.h1
      have z2 := hbw.h2
      have smw := smv.kept (hk14.tr hkw)
      have S2w := S2.kept (hk24.tr hkw)
      have hwb : w.heap.size ≤ wr.heap.size := by have := hkw.size; omega
      by_cases hlt : d < rs.length
      · exfalso
        omega
      · have hge : (rs.length : Int) ≤ (d : Int) := by omega
        have huc := hus.sl
        have HF : Hid (Pl.quo (t.pl p) (t.pl q) = t.pl us ∧ Pl.rem (t.pl p) (t.pl q) = t.pl rs) := hid (Pl.div_of hpe.out (by
          rw [t.can_ln crs, ← P2.out, t.can_ln c2, HD.out]; omega))
        clear hlt
        go_wp2_with (fail)
        refine (rCanon_p G t P M mod vm _ us _ ho huc (by have := hul.out; omega)).mono ?_
        rintro e w9 ⟨v9, l9, rfl, o9, k9, c9, p9⟩
        have P9 := hid p9
        clear p9
        go_wp2_with (fail)
        go_ret2
        exact ⟨_, _, l9, rs, rfl, o9.mono hwb, hrs.kept k9, (hk0.tr (hk14.tr hkw)).tr k9, c9, crs, by rw [P9.out, HF.out.1], by rw [HF.out.2]⟩
  have hmd' : (0 : Int) ≤ (l1.length : Int) - (d : Int) := by omega
  go_wp2_with (at_make; refine wpList_make_ints rfl _ _ rfl nq _ _ rfl rfl (by have := HNQ.out; omega) (by have := HNQ.out; omega) (by omega) ?_; intro w5 ho5 hk5)
  go_loopw [8] (fun vr wr => ∃ (rs us : List Int) (a3 : Option Addr) (c3 : Nat), vr = .slice a3 rs.length c3 ∧ Own wr w.heap.size vr rs ∧ Own wr w4.heap.size (.slice (some ⟨w4.heap.size, 0, none⟩) nq nq) us ∧ NotAt vr w4.heap.size ∧ Kept w4 wr ∧ Cano G rs ∧ rs.length ≤ l1.length ∧ Hid (us.length = nq) ∧
      Hid (t.pl p = t.pl us * t.pl q + t.pl rs) ∧ Hid (∀ i, i + d < rs.length → us.getD i 0 = 0)) (fun vr _ => lenW vr)
  case atStart => exact ⟨l1, List.replicate nq 0, _, _, rfl, o14.kept hk5, ho5, notAt_old o14 (Nat.le_refl _), hk5, c1, Nat.le_refl _, hid (by simp), hid (by rw [t.pl_zeros, Rg.zero_mul, Rg.zero_add, P1.out]), hid (fun i _ => by
    by_cases hi : i < nq
    · simp [hi]
    · rw [ld_out (by simp; omega)])⟩
  case round =>
    obtain ⟨rs, us, a3, c3, rfl, hrs, hus, hna, hkw, crs, hrl, hul, hpe, huz⟩ := hrel
    clear ho5 hk5 o14
    have hbw := hbx.kept (hk14.tr hkw)
    have z0 := hbw.h0
    have z1 := hbw.h1
    have z2 := hbw.h2
    have smw := smv.kept (hk14.tr hkw)
    have S2w := S2.kept (hk24.tr hkw)
    have hwb : w.heap.size ≤ wr.heap.size := by have := hkw.size; omega
    by_cases hlt : d < rs.length
    · obtain ⟨n, hn⟩ : ∃ n, rs.length = n + d + 1 := ⟨rs.length - d - 1, by omega⟩
      have hne : rs ≠ [] := fun e => by rw [e] at hn; simp at hn
      obtain ⟨g3, cp3, e3, q1, q2, q3, q4⟩ := hrs.sh' hne
      cases e3
      have hct := hrs.cell (i := n + d) (by omega)
      obtain ⟨x, hx⟩ : ∃ x, x = rs.getD (n + d) 0 := ⟨_, rfl⟩
      rw [← hx] at hct
      obtain ⟨a, ha⟩ : ∃ a, a = mulG G x iv := ⟨_, rfl⟩
      have HA : Hid (mulG G x iv = a) := hid ha.symm
      have HX := hid hx
      have HNR := hid hn
      have hnq : n < nq := by have := HNQ.out; omega
      have hn5 : n ≤ 50000 := by omega
      have hcu := hus.cell (i := n) (by rw [hul.out]; exact hnq)
      have hfu := hus.frozen n
      have Srs := hrs.sl
      have HAD : Hid (t.e a * (t.pl q).a d = (t.pl rs).a (n + d)) := hid (by
        rw [ha, t.e_mul, ← HIV.out, t.e_invG HIN.out, Rg.mul_assoc, ← P2.out, t.pl_at, ← HLD.out, Fd.inv_mul (fun e => HIN.out (t.e_nz.1 e)), Rg.mul_one, hx]
        rfl)
      rw [hn] at q1 hrl Srs ⊢
      have u0 : (0 : Int) ≤ (n : Int) + (d : Int) := by omega
      have u1 : (n : Int) + (d : Int) < (n : Int) + (d : Int) + 1 := by omega
      have u2 : ((n : Int) + (d : Int)).toNat = n + d := by omega
      have u3 : IntKind.i64.wrap ((n : Int) + (d : Int)) = (n : Int) + (d : Int) := IntWalk.i64_in _ (by omega)
      have u4 : (n : Int) < (nq : Int) := by omega
      have u5 : (0 : Int) ≤ (n : Int) := by omega
      have u6 : (n : Int) + (d : Int) + 1 - 1 - (d : Int) = (n : Int) := by omega
      clear hx ha hn hne hlt
      go_wp2_with (fail)
      have hkc := Kept.rfl' wr
      go_region_held3 (fun w' => w'.cell? ⟨w.heap.size, 0, none⟩ = some (.int .i64 P) ∧ w'.cell? ⟨w.heap.size, 1, none⟩ = some (.int .i64 M) ∧ w'.cell? ⟨w.heap.size, 2, none⟩ = some vm ∧ w'.cell? ⟨g3, n + d, none⟩ = some (.int .i64 x)) (first | (simp [go_sem]; done) | (simp [*]; done))
        (first
          | (go_at_call 34; (with_reducible refine (rMul_field G t P M mod vm x iv _ ho.out (smw.kept (by first | exact hkc | exact hkc.tr (kept_drew _) | exact hkc.tr (kept_drewN _ _)))).mono ?_); rintro e wx ⟨rfl, kx⟩; rw [HA.out]; have hkn := Kept.tr (b := _) (by first | exact hkc | exact hkc.tr (kept_drew _) | exact hkc.tr (kept_drewN _ _)) kx; clear hkc kx; have hkc := hkn; clear hkn; have bxx := hbw.kept hkc; have d0 := bxx.h0; have d1 := bxx.h1; have d2 := bxx.h2; have d3 := (Kept.cell' hkc q4).trans hct; have husx := hus.kept hkc; have d4 := husx.cell (i := n) (by rw [hul.out]; exact hnq); have d5 := husx.frozen n))
      clear u0 u1 u2 u3
      go_wp2_with (fail)
      have hus6 := husx.set n a
      have hk6 : Kept w4 (wx.setCell ⟨w4.heap.size, n, none⟩ (.int .i64 a)) := Below.setCell (hkw.tr hkc) (p := ⟨w4.heap.size, n, none⟩) (Nat.le_refl _) (.int .i64 a)
      have hrs6 := (hrs.kept hkc).setOther ⟨w4.heap.size, n, none⟩ (.int .i64 a) (fun g k c e => hna g k c e)
      obtain ⟨w6, hw6⟩ : ∃ x, x = wx.setCell ⟨w4.heap.size, n, none⟩ (.int .i64 a) := ⟨_, rfl⟩
      rw [← hw6] at hus6 hk6 hrs6 ⊢
      clear hw6
      have hbw := hbx.kept (hk14.tr hk6)
      have z0 := hbw.h0
      have z1 := hbw.h1
      have z2 := hbw.h2
      have smw := smv.kept (hk14.tr hk6)
      have S2w := S2.kept (hk24.tr hk6)
      have S26 := hrs6.sl
      have S26' : Sl w6 (.slice (some ⟨g3, 0, none⟩) (n + d + 1) c3) rs := by rw [← HNR.out]; exact S26
      have S2w' : Sl w6 (.slice (some ⟨g2, 0, none⟩) (d + 1) cp2) l2 := S2w
      have hwb6 : w.heap.size ≤ w6.heap.size := by have := hk6.size; omega
      have hlt6 : w4.heap.size < w6.heap.size := hus6.lt.2
      have hn2' : l2.length ≤ 50000 := by rw [HD.out]; exact hn2
      have hnd : n + d + 1 ≤ 50000 := by omega
      have hkc := Kept.rfl' w6
      have hcur := curR w6
      have ND : Hid (d + 1 ≤ 50000) := hid hn2
      clear hct hcu hfu hrs hus husx d4 d5 d3 hkw hwb hn1 s1 hrs6 hna
      go_region_held3 (fun w' => w'.cell? ⟨w.heap.size, 0, none⟩ = some (.int .i64 P) ∧ w'.cell? ⟨w.heap.size, 1, none⟩ = some (.int .i64 M) ∧ w'.cell? ⟨w.heap.size, 2, none⟩ = some vm) (first | (simp [go_sem]; done) | (simp [*]; done))
        (first
          | (go_at_call 82; (with_reducible refine (rScale_p G t P M mod vm a _ l2 _ ho (smw.kept (by first | exact hkc | exact hkc.tr (kept_drew _) | exact hkc.tr (kept_alloc _ _) | exact hkc.tr (kept_drewN _ _))) (S2w'.kept (by first | exact hkc | exact hkc.tr (kept_drew _) | exact hkc.tr (kept_alloc _ _) | exact hkc.tr (kept_drewN _ _))) (by omega)).mono ?_); rintro e wx ⟨v20, l20, rfl, o20, kx, c20, p20⟩; have P20 := hid p20; have hst := Kept.fromR hcur (by first | exact Kept.rfl' _ | exact kept_drew _ | exact kept_alloc _ _ | exact kept_drewN _ _) kx; have o20 := o20.mono (Nat.le_trans hwb6 (Below.size (show Kept w6 _ from (by first | exact hkc | exact hkc.tr (kept_drew _) | exact hkc.tr (kept_alloc _ _) | exact hkc.tr (kept_drewN _ _))))); clear hcur kx p20; have hcur := curR wx; have hkc := hkc.tr hst; (first | (have s20 := s20.kept hst) | skip); (first | (have s21 := s21.kept hst) | skip); (first | (have s22 := s22.kept hst) | skip); have s20 := o20.sl; have bxx := hbw.kept hkc; have d0 := bxx.h0; have d1 := bxx.h1; have d2 := bxx.h2; clear hst; have n20 : l20.length ≤ d + 1 := (by have := t.can_ln' c20 P20.out; have := Pl.ln_cmul_le (t.e a) (t.pl l2); have := t.can_ln c2; have := HD.out; omega))
          | (go_at_call 83; (with_reducible refine (rPower_p G t n _ (by omega)).mono ?_); rintro e wx ⟨v21, l21, rfl, o21, kx, c21, p21⟩; have P21 := hid p21; have hst := Kept.fromR hcur (by first | exact Kept.rfl' _ | exact kept_drew _ | exact kept_alloc _ _ | exact kept_drewN _ _) kx; have o21 := o21.mono (Nat.le_trans hwb6 (Below.size (show Kept w6 _ from (by first | exact hkc | exact hkc.tr (kept_drew _) | exact hkc.tr (kept_alloc _ _) | exact hkc.tr (kept_drewN _ _))))); clear hcur kx p21; have hcur := curR wx; have hkc := hkc.tr hst; (first | (have s20 := s20.kept hst) | skip); (first | (have s21 := s21.kept hst) | skip); (first | (have s22 := s22.kept hst) | skip); have s21 := o21.sl; have bxx := hbw.kept hkc; have d0 := bxx.h0; have d1 := bxx.h1; have d2 := bxx.h2; clear hst; have n21 : l21.length ≤ n + 1 := (by have := t.can_ln' c21 P21.out; rw [Pl.ln_x] at this; omega))
          | (go_at_call 23; (with_reducible refine (rMul_p G t P M mod vm _ _ l20 l21 _ ho (smw.kept (by first | exact hkc | exact hkc.tr (kept_drew _) | exact hkc.tr (kept_alloc _ _) | exact hkc.tr (kept_drewN _ _))) (s20.kept (by first | exact Kept.rfl' _ | exact kept_drew _ | exact kept_alloc _ _ | exact kept_drewN _ _)) (s21.kept (by first | exact Kept.rfl' _ | exact kept_drew _ | exact kept_alloc _ _ | exact kept_drewN _ _)) (by omega) (by omega)).mono ?_); rintro e wx ⟨v22, l22, rfl, o22, kx, c22, p22⟩; have P22 := hid p22; have hst := Kept.fromR hcur (by first | exact Kept.rfl' _ | exact kept_drew _ | exact kept_alloc _ _ | exact kept_drewN _ _) kx; have o22 := o22.mono (Nat.le_trans hwb6 (Below.size (show Kept w6 _ from (by first | exact hkc | exact hkc.tr (kept_drew _) | exact hkc.tr (kept_alloc _ _) | exact hkc.tr (kept_drewN _ _))))); clear hcur kx p22; have hcur := curR wx; have hkc := hkc.tr hst; (first | (have s20 := s20.kept hst) | skip); (first | (have s21 := s21.kept hst) | skip); (first | (have s22 := s22.kept hst) | skip); have s22 := o22.sl; have bxx := hbw.kept hkc; have d0 := bxx.h0; have d1 := bxx.h1; have d2 := bxx.h2; clear hst; have n22 : l22.length ≤ n + d + 1 := (by have := t.can_ln' c22 P22.out; have := Pl.ln_mul_le (t.pl l20) (t.pl l21); have := t.pl_ln_le l20; have := t.pl_ln_le l21; omega))
          | (go_at_call 81; (with_reducible refine (rSub_p G t P M mod vm _ _ rs l22 _ ho (smw.kept (by first | exact hkc | exact hkc.tr (kept_drew _) | exact hkc.tr (kept_alloc _ _) | exact hkc.tr (kept_drewN _ _))) (S26'.kept (by first | exact hkc | exact hkc.tr (kept_drew _) | exact hkc.tr (kept_alloc _ _) | exact hkc.tr (kept_drewN _ _))) (s22.kept (by first | exact Kept.rfl' _ | exact kept_drew _ | exact kept_alloc _ _ | exact kept_drewN _ _)) (by have := HNR.out; omega) (by omega)).mono ?_); rintro e wx ⟨v23, l23, rfl, o23, kx, c23, p23⟩; have P23 := hid p23; have hst := Kept.fromR hcur (by first | exact Kept.rfl' _ | exact kept_drew _ | exact kept_alloc _ _ | exact kept_drewN _ _) kx; have na23 := notAt_own o23 (Nat.lt_of_lt_of_le hlt6 (Below.size (show Kept w6 _ from (by first | exact hkc | exact hkc.tr (kept_drew _) | exact hkc.tr (kept_alloc _ _) | exact hkc.tr (kept_drewN _ _))))); have o23 := o23.mono (Nat.le_trans hwb6 (Below.size (show Kept w6 _ from (by first | exact hkc | exact hkc.tr (kept_drew _) | exact hkc.tr (kept_alloc _ _) | exact hkc.tr (kept_drewN _ _))))); clear hcur kx p23; have hcur := curR wx; have hkc := hkc.tr hst; (first | (have s20 := s20.kept hst) | skip); (first | (have s21 := s21.kept hst) | skip); (first | (have s22 := s22.kept hst) | skip); have s23 := o23.sl; have bxx := hbw.kept hkc; have d0 := bxx.h0; have d1 := bxx.h1; have d2 := bxx.h2; clear hst))
      all_goals
        have HE : t.pl l23 = t.pl rs - Pl.c (t.e a) * t.pl q * Pl.x n := by rw [P23.out, P22.out, P20.out, P21.out, P2.out]
        have hl23 : l23.length ≤ n + d := by
          have h1 := t.can_ln' c23 HE
          have h2 := rdv_len t (R := t.pl rs) (Q := t.pl q) (a := t.e a) (n := n) (d := d) (by rw [← P2.out, t.can_ln c2, HD.out]; omega) (by rw [t.can_ln crs, HNR.out]; omega) HAD.out
          omega
        have HEQ : Hid (t.pl p = t.pl (us.set n a) * t.pl q + t.pl l23) := hid (by
          rw [rdv_us t (by rw [hul.out]; exact hnq) (huz.out n (by rw [HNR.out]; omega)) a, HE]
          exact rdv_eq _ _ hpe.out)
        have HUZ : Hid (∀ i, i + d < l23.length → (us.set n a).getD i 0 = 0) := hid (fun i hi => by
          rw [ldset_ne _ (by omega)]
          exact huz.out i (by rw [HNR.out]; omega))
        obtain ⟨a23, cp23, rfl, _, _⟩ := o23.sh
        have hus7 := hus6.kept hkc
        have hk7 := hk6.tr hkc
        clear HE
        go_wp2_with (fail)
        go_roundw
        case rel => exact ⟨l23, us.set n a, _, _, rfl, o23, hus7, na23, hk7, c23, by omega, hid (by simp [hul.out]), HEQ, HUZ⟩
        case measure => show l23.length < n + d + 1; omega
    · have hge : (rs.length : Int) ≤ (d : Int) := by omega
      have huc := hus.sl
      have HF : Hid (Pl.quo (t.pl p) (t.pl q) = t.pl us ∧ Pl.rem (t.pl p) (t.pl q) = t.pl rs) := hid (Pl.div_of hpe.out (by
        rw [t.can_ln crs, ← P2.out, t.can_ln c2, HD.out]; omega))
      clear hlt
      go_wp2_with (fail)
      refine (rCanon_p G t P M mod vm _ us _ ho huc (by have := hul.out; omega)).mono ?_
      rintro e w9 ⟨v9, l9, rfl, o9, k9, c9, p9⟩
      have P9 := hid p9
      clear p9
      go_wp2_with (fail)
      go_ret2
      exact ⟨_, _, l9, rs, rfl, o9.mono hwb, hrs.kept k9, (hk0.tr (hk14.tr hkw)).tr k9, c9, crs, by rw [P9.out, HF.out.1], by rw [HF.out.2]⟩
set_option maxRecDepth 100000 in
set_option maxHeartbeats 2000000 in
theorem rMonic_p (G : GFd) (t : Tabs G) (P M : Int) (mod : List Int) (vm : Value) (vp : Value) (p : List Int) (w : World) (ho : Hid (Of G P M mod)) (hvm : Sl w vm mod) (hvp : Sl w vp p) (hlp : p.length ≤ 50000) :
    Calls Try.prog 52 #[.agg #[.int .i64 P, .int .i64 M, vm], vp] w (OutP G t (Pl.mon (t.pl p)) w) := by
  have hk0 := kept_alloc w (.cells #[.int .i64 P, .int .i64 M, vm] 24)
  have hbx := boxF_new w P M vm 24
  have smv := hvm.kept hk0
  have svp := hvp.kept hk0
  have HZ1 : (w.alloc (.cells #[.int .i64 P, .int .i64 M, vm] 24)).heap.size = w.heap.size + 1 := by simp
  have HZ1 := hid HZ1
  obtain ⟨w1, hw1⟩ : ∃ w1, w1 = w.alloc (.cells #[.int .i64 P, .int .i64 M, vm] 24) := ⟨_, rfl⟩
  rw [← hw1] at hk0 hbx smv HZ1 svp
  go_enter Try.func52, Try.ntmps52
  go_wp2_with (fail)
  rw [← hw1]
  clear hw1
  refine (rCanon_p G t P M mod vm vp p _ ho svp (by omega)).mono ?_
  rintro e w2 ⟨v2, l2, rfl, o2, k2, c2, p2⟩
  have hn2 : l2.length ≤ 50000 := by have := t.can_ln' c2 p2; have := t.pl_ln_le p; omega
  have P2 := hid p2
  clear p2
  by_cases hne : l2 = []
  · subst hne
    obtain ⟨a2, cp2, rfl, s2, s2'⟩ := o2.sh
    go_wp2_with (fail)
    go_ret
    exact ⟨_, [], rfl, o2.mono hk0.size, hk0.tr k2, can_nil G, by rw [← P2.out, t.pl_nil, Pl.mon_zero]⟩
  obtain ⟨g2, cp2, rfl, s2, s2', _, hg2⟩ := o2.sh' hne
  obtain ⟨d, hd⟩ : ∃ d, l2.length = d + 1 := ⟨l2.length - 1, by have := List.length_pos_iff.2 hne; omega⟩
  have hcl := o2.cell (i := d) (by omega)
  obtain ⟨ld, hld⟩ : ∃ x, x = l2.getD d 0 := ⟨_, rfl⟩
  rw [← hld] at hcl
  obtain ⟨m1, _, _⟩ := t.mon_list c2 hne
  rw [hd, Nat.add_sub_cancel, ← hld] at m1
  obtain ⟨iv, hiv⟩ : ∃ x, x = invG G ld := ⟨_, rfl⟩
  have HIV : Hid (invG G ld = iv) := hid hiv.symm
  have HMON : Hid (Pl.c (t.e iv) * t.pl l2 = Pl.mon (t.pl p)) := hid (by
    rw [hiv, t.e_invG m1, ← P2.out]
    unfold Pl.mon Pl.lc
    rw [t.can_ln c2, hd, Nat.add_sub_cancel, hld]
    rfl)
  have S2 := o2.sl
  have HD := hid hd
  rw [hd] at S2 s2 ⊢
  have t1 : (((d + 1 : Nat) : Int) == 0) = false := beq0 (by omega)
  have t2 : ((d : Int) + 1 == 0) = false := by have := beq0 (n := d + 1) (by omega); simpa using this
  have i0 : (0 : Int) ≤ (d : Int) := by omega
  have i1 : (d : Int) < (d : Int) + 1 := by omega
  have i2 : (d : Int).toNat = d := by omega
  have i3 : IntKind.i64.wrap (d : Int) = (d : Int) := IntWalk.i64_in _ (by omega)
  have i4 : IntKind.i64.wrap ((d : Int) + 1 - 1) = (d : Int) := by rw [show (d : Int) + 1 - 1 = (d : Int) by omega, i3]
  have hwb : w.heap.size ≤ w2.heap.size := by have := hk0.size; have := k2.size; omega
  have hbw := hbx.kept k2
  have x0 := hbw.h0
  have x1 := hbw.h1
  have x2 := hbw.h2
  have smw := smv.kept k2
  clear hne hd hld m1 hiv
  go_wp2_with (fail)
  have hkc := Kept.rfl' w2
  go_region_held3 (fun w' => w'.cell? ⟨w.heap.size, 0, none⟩ = some (.int .i64 P) ∧ w'.cell? ⟨w.heap.size, 1, none⟩ = some (.int .i64 M) ∧ w'.cell? ⟨w.heap.size, 2, none⟩ = some vm ∧ w'.cell? ⟨g2, d, none⟩ = some (.int .i64 ld)) (first | (simp [go_sem]; done) | (simp [*]; done))
    (first
      | (go_at_call 59; (with_reducible refine (rInv_p G t P M mod vm ld _ ho (smw.kept (by first | exact hkc | exact hkc.tr (kept_drew _) | exact hkc.tr (kept_drewN _ _)))).mono ?_); rintro e wx ⟨rfl, kx⟩; rw [HIV.out]; have hkn := Kept.tr (b := _) (by first | exact hkc | exact hkc.tr (kept_drew _) | exact hkc.tr (kept_drewN _ _)) kx; clear hkc kx; have hkc := hkn; clear hkn; have bxx := hbw.kept hkc; have d0 := bxx.h0; have d1 := bxx.h1; have d2 := bxx.h2; have d3 := (Kept.cell' hkc hg2).trans hcl)
      | (go_at_call 82; (with_reducible refine (rScale_p G t P M mod vm iv _ l2 _ ho (smw.kept (by first | exact hkc | exact hkc.tr (kept_drew _) | exact hkc.tr (kept_drewN _ _))) (S2.kept (by first | exact hkc | exact hkc.tr (kept_drew _) | exact hkc.tr (kept_drewN _ _))) (by omega)).mono ?_); rintro e wx ⟨v4, l4, rfl, o4, kx, c4, p4⟩; have P4 := hid p4; have hkn := Kept.tr (b := _) (by first | exact hkc | exact hkc.tr (kept_drew _) | exact hkc.tr (kept_drewN _ _)) kx; have o4 := o4.mono (Nat.le_trans hwb (Below.size (show Kept w2 _ from (by first | exact hkc | exact hkc.tr (kept_drew _) | exact hkc.tr (kept_drewN _ _))))); clear p4 hkc kx; have hkc := hkn; clear hkn; have bxx := hbw.kept hkc; have d0 := bxx.h0; have d1 := bxx.h1; have d2 := bxx.h2; have d3 := (Kept.cell' hkc hg2).trans hcl))
  clear i2 i3 i4
  go_wp2_with (fail)
  go_ret
  exact ⟨_, l4, rfl, o4, (hk0.tr k2).tr hkc, c4, by rw [P4.out, HMON.out]⟩
set_option maxRecDepth 100000 in
set_option maxHeartbeats 2000000 in
theorem rGcd_p (G : GFd) (t : Tabs G) (P M : Int) (mod : List Int) (vm : Value) (vp vq : Value) (p q : List Int) (w : World) (ho : Hid (Of G P M mod)) (hvm : Sl w vm mod) (hvp : Sl w vp p) (hvq : Sl w vq q) (hlp : p.length ≤ 50000) (hlq : q.length ≤ 50000) :
    Calls Try.prog 22 #[.agg #[.int .i64 P, .int .i64 M, vm], vp, vq] w (OutP G t (Pl.gcd (t.pl p) (t.pl q)) w) := by
  have hk0 := kept_alloc w (.cells #[.int .i64 P, .int .i64 M, vm] 24)
  have hbx := boxF_new w P M vm 24
  have smv := hvm.kept hk0
  have svp := hvp.kept hk0
  have svq := hvq.kept hk0
  have HZ1 : (w.alloc (.cells #[.int .i64 P, .int .i64 M, vm] 24)).heap.size = w.heap.size + 1 := by simp
  have HZ1 := hid HZ1
  obtain ⟨w1, hw1⟩ : ∃ w1, w1 = w.alloc (.cells #[.int .i64 P, .int .i64 M, vm] 24) := ⟨_, rfl⟩
  rw [← hw1] at hk0 hbx smv HZ1 svp svq
  go_enter Try.func22, Try.ntmps22
  go_wp2_with (fail)
  rw [← hw1]
  clear hw1
  refine (rCanon_p G t P M mod vm vp p _ ho svp (by omega)).mono ?_
  rintro e w2 ⟨v1, l1, rfl, o1, k1, c1, p1⟩
  have hn1 : l1.length ≤ 50000 := by have := t.can_ln' c1 p1; have := t.pl_ln_le p; omega
  have P1 := hid p1
  have hb2 := hbx.kept k1
  have x0 := hb2.h0
  have x1 := hb2.h1
  have x2 := hb2.h2
  clear p1
  go_wp2_with (fail)
  refine (rCanon_p G t P M mod vm vq q _ ho (svq.kept k1) (by omega)).mono ?_
  rintro e w3 ⟨v2, l2, rfl, o2, k2, c2, p2⟩
  have hn2 : l2.length ≤ 50000 := by have := t.can_ln' c2 p2; have := t.pl_ln_le q; omega
  have hG : Hid (Pl.gcd (t.pl l1) (t.pl l2) = Pl.gcd (t.pl p) (t.pl q)) := hid (by rw [P1.out, p2])
  have hk13 := k1.tr k2
  have o1' := (o1.kept k2).mono hk0.size
  have o2' := o2.mono (show w.heap.size ≤ _ from Nat.le_trans hk0.size k1.size)
  obtain ⟨a2, cp2, rfl, s2, s2'⟩ := o2.sh
  clear p2 P1 o1 o2 x0 x1 x2 hb2
  go_wp2_with (fail)
  go_loopw [1, 2] (fun vp vq wr => ∃ (l1 l2 : List Int) (a2 : Option Addr) (cp2 : Nat), vq = .slice a2 l2.length cp2 ∧ Own wr w.heap.size vp l1 ∧ Own wr w.heap.size vq l2 ∧ Kept w3 wr ∧ Cano G l1 ∧ Cano G l2 ∧ Hid (Pl.gcd (t.pl l1) (t.pl l2) = Pl.gcd (t.pl p) (t.pl q)) ∧ l1.length ≤ 50000 ∧ l2.length ≤ 50000) (fun _ vq _ => lenW vq)
  case atStart => exact ⟨l1, l2, _, _, rfl, o1', o2', Kept.rfl' _, c1, c2, hG, hn1, hn2⟩
  case round =>
    obtain ⟨l1, l2, a2, cp2, rfl, o1, o2, hkw, c1, c2, hG, hn1, hn2⟩ := hrel
    clear o1' o2' s2 s2'
    have hbw := hbx.kept (hk13.tr hkw)
    have z0 := hbw.h0
    have z1 := hbw.h1
    have z2 := hbw.h2
    have smw := smv.kept (hk13.tr hkw)
    have hwb := (hk0.tr (hk13.tr hkw)).size
    by_cases h0 : l2 = []
    · subst h0
      have HM : Hid (Pl.mon (t.pl l1) = Pl.gcd (t.pl p) (t.pl q)) := hid (by rw [← hG.out, t.pl_nil, Pl.gcd_zero])
      go_wp2_with (fail)
      refine (rMonic_p G t P M mod vm _ l1 _ ho smw o1.sl hn1).mono ?_
      rintro e w4 ⟨v4, l4, rfl, o4, k4, c4, p4⟩
      have P4 := hid p4
      clear p4
      go_wp2_with (fail)
      go_ret
      exact ⟨_, l4, rfl, o4.mono hwb, (hk0.tr (hk13.tr hkw)).tr k4, c4, by rw [P4.out, HM.out]⟩
    · have hpos := List.length_pos_iff.2 h0
      have hz : t.pl l2 ≠ 0 := fun e => h0 ((t.pl_zero c2).1 e)
      have HZ := hid hz
      have tp : (0 : Int) < (l2.length : Int) := by omega
      clear h0 hz
      go_wp2_with (fail)
      refine (rDivMod_p G t P M mod vm _ _ l1 l2 _ ho smw o1.sl o2.sl hn1 hn2 HZ.out).mono ?_
      rintro e w4 ⟨vu, vr, lu, lr, rfl, ou, orr, k4, cu, cr, pu, pr⟩
      have PR := hid pr
      obtain ⟨a3, cp3, rfl, s3, s3'⟩ := orr.sh
      have hlr : lr.length < l2.length := by
        have h1 := t.can_ln' cr PR.out
        have h2 := Pl.rem_lt (t.pl l1) HZ.out
        rw [t.can_ln c2] at h2
        omega
      clear pu pr
      go_wp2_with (fail)
      go_roundw
      case rel => exact ⟨l2, lr, _, _, rfl, o2.kept k4, orr.mono hwb, hkw.tr k4, c2, cr, hid (by rw [← hG.out, PR.out, Pl.gcd_rem]), hn2, by omega⟩
      case measure => simpa [lenW] using hlr
end Go.Proofs.Ytmnbcnbhnclkhaa
