/- The walks of Gcd and PowMod of polynomials. Conditions: the field lies in memory with its tables; lengths are bounded. -/
import Derived.Test.YtjoednmoginhpaaKf
import Derived.Test.YtjoednmoginhpaaKw
namespace Go.Proofs.Ytjoednmoginhpaa
open Go.RowKit Cw

def lenV : Value → Nat | .slice _ n _ => n | _ => 0
theorem e_one_c {G : GFd} (t : Tabs G) : Pl.c (t.e 1) = 1 := by rw [t.e_one, Pl.c_one]

set_option maxRecDepth 100000 in
set_option maxHeartbeats 2000000 in
theorem gcd_p (b : Nat) (G : GFd) (t : Tabs G) (vp vq : Value) (p q : List Int) (w : World) (hg : IsGF w b G) (hvp : Sl w vp p) (hvq : Sl w vq q) (hlp : p.length ≤ 100000) (hlq : q.length ≤ 100000) :
    Calls Try.prog 52 #[.pointer (some ⟨b, 0, none⟩), vp, vq] w (OutP G t (Pl.gcd (t.pl p) (t.pl q)) w) := by
  go_enter Try.func52, Try.ntmps52
  go_wp2_with (fail)
  refine (canon_p b G t vp p _ hg hvp (by omega)).mono ?_
  rintro e w1 ⟨v1, l1, rfl, o1, k1, c1, p1⟩
  have hn1 : l1.length ≤ 100000 := by have := t.can_ln' c1 p1; have := t.pl_ln_le p; omega
  have hvq1 := hvq.kept k1
  have hg1 := hg.kept k1
  have P1 := hid p1
  clear p1 hvp hvq hg
  go_wp2_with (fail)
  refine (canon_p b G t vq q _ hg1 hvq1 (by omega)).mono ?_
  rintro e w2 ⟨v2, l2, rfl, o2, k2, c2, p2⟩
  have hn2 : l2.length ≤ 100000 := by have := t.can_ln' c2 p2; have := t.pl_ln_le q; omega
  have hG : Hid (Pl.gcd (t.pl l1) (t.pl l2) = Pl.gcd (t.pl p) (t.pl q)) := hid (by rw [P1.out, p2])
  have o1' := o1.kept k2
  have o2' := o2.mono k1.size
  have hk02 := k1.tr k2
  have hg2 := hg1.kept k2
  obtain ⟨a2, cp2, rfl, s2, s2'⟩ := o2.sh
  clear p2 P1 o1 o2 k1 k2 hg1 hvq1
  go_wp2_with (fail)
  go_loopw [1, 2] (fun vp vq wr => ∃ (l1 l2 : List Int) (a2 : Option Addr) (cp2 : Nat), vq = .slice a2 l2.length cp2 ∧ Own wr w.heap.size vp l1 ∧ Own wr w.heap.size vq l2 ∧ Kept w2 wr ∧ Cano G l1 ∧ Cano G l2 ∧ Hid (Pl.gcd (t.pl l1) (t.pl l2) = Pl.gcd (t.pl p) (t.pl q)) ∧ l1.length ≤ 100000 ∧ l2.length ≤ 100000) (fun _ vq _ => lenV vq)
  case atStart => exact ⟨l1, l2, _, _, rfl, o1', o2', Kept.rfl' _, c1, c2, hG, hn1, hn2⟩
  case round =>
    obtain ⟨l1, l2, a2, cp2, rfl, o1, o2, hkw, c1, c2, hG, hn1, hn2⟩ := hrel
    clear o1' o2' s2 s2'
    have hgw := hg2.kept hkw
    by_cases h0 : l2 = []
    · subst h0
      have HM : Hid (Pl.mon (t.pl l1) = Pl.gcd (t.pl p) (t.pl q)) := hid (by rw [← hG.out, t.pl_nil, Pl.gcd_zero])
      have s1 := o1.sl
      by_cases h1 : t.pl l1 = 0
      · have H1 := hid h1
        have HZ : Hid (Pl.gcd (t.pl p) (t.pl q) = 0) := hid (by rw [← HM.out, h1, Pl.mon_zero])
        clear h1
        go_wp2_with (go_at_call 44; (with_reducible refine (monic_z b G t _ l1 _ hgw s1 (by omega) H1.out).mono ?_); rintro e w3 ⟨rfl, k3⟩)
        go_ret
        exact ⟨_, [], rfl, own_nil _ _, (hk02.tr hkw).tr k3, can_nil G, by rw [HZ.out, t.pl_nil]⟩
      · have H1 := hid h1
        clear h1
        go_wp2_with (go_at_call 44; (with_reducible refine (monic_p b G t _ l1 _ hgw s1 (by omega) H1.out).mono ?_); rintro e w3 ⟨v3, l3, rfl, o3, k3, c3, p3⟩; have P3 := hid p3; clear p3)
        go_ret
        exact ⟨_, l3, rfl, o3.mono (hk02.tr hkw).size, (hk02.tr hkw).tr k3, c3, by rw [P3.out, HM.out]⟩
    · have hpos := List.length_pos_iff.2 h0
      have hz : t.pl l2 ≠ 0 := fun e => h0 ((t.pl_zero c2).1 e)
      have HZ := hid hz
      have s1 := o1.sl
      have s2 := o2.sl
      have tp : (0 : Int) < (l2.length : Int) := by omega
      clear h0 hz
      go_wp2_with (go_at_call 23; (with_reducible refine (divmod_p b G t _ _ l1 l2 _ hgw s1 s2 (by omega) (by omega) HZ.out).mono ?_); rintro e w3 ⟨vu, vr, lu, lr, rfl, ou, orr, k3, cu, cr, pu, pr⟩; have PU := hid pu; have PR := hid pr; clear pu pr)
      obtain ⟨a3, cp3, rfl, s3, s3'⟩ := orr.sh
      have hlr : lr.length < l2.length := by
        have h1 := t.can_ln' cr PR.out
        have h2 := Pl.rem_lt (t.pl l1) HZ.out
        rw [t.can_ln c2] at h2
        omega
      go_roundw
      case rel => exact ⟨l2, lr, _, _, rfl, o2.kept k3, orr.mono (hk02.tr hkw).size, hkw.tr k3, c2, cr, hid (by rw [← hG.out, PR.out, Pl.gcd_rem]), hn2, by omega⟩
      case measure => simpa [lenV] using hlr

theorem powmod_zero (b : Nat) (G : GFd) (t : Tabs G) (vp vm : Value) (n : Int) (m : List Int) (w : World) (hg : IsGF w b G) (hvm : Sl w vm m) (hl : m.length ≤ 100000) (hz : t.pl m = 0) :
    Calls Try.prog 48 #[.pointer (some ⟨b, 0, none⟩), vp, .int .i64 n, vm] w fun e w' => e = .returned (.tuple #[.slice none 0 0, .int .i64 7]) ∧ Kept w w' := by
  have HZ := hid hz
  clear hz
  go_enter Try.func48, Try.ntmps48
  go_wp2_with (fail)
  refine (canon_p b G t vm m _ hg hvm (by omega)).mono ?_
  rintro e w1 ⟨v1, l1, rfl, o1, k1, c1, p1⟩
  obtain rfl : l1 = [] := (t.pl_zero c1).1 (p1.trans HZ.out)
  obtain ⟨a1, cp1, rfl, h1, h2⟩ := o1.sh
  clear p1
  go_wp2_with (fail)
  go_ret2
  exact ⟨rfl, k1⟩
theorem powmod_big (b : Nat) (G : GFd) (t : Tabs G) (vp vm : Value) (n : Int) (m : List Int) (w : World) (hg : IsGF w b G) (hvm : Sl w vm m) (hl : m.length ≤ 100000) (hz : 257 < (t.pl m).ln) :
    Calls Try.prog 48 #[.pointer (some ⟨b, 0, none⟩), vp, .int .i64 n, vm] w fun e w' => e = .returned (.tuple #[.slice none 0 0, .int .i64 8]) ∧ Kept w w' := by
  go_enter Try.func48, Try.ntmps48
  go_wp2_with (fail)
  refine (canon_p b G t vm m _ hg hvm (by omega)).mono ?_
  rintro e w1 ⟨v1, l1, rfl, o1, k1, c1, p1⟩
  have hn := t.can_ln' c1 p1
  have hn2 : l1.length ≤ 100000 := by have := t.pl_ln_le m; omega
  obtain ⟨a1, cp1, rfl, h1, h2⟩ := o1.sh
  have t1 : ((l1.length : Int) == 0) = false := beq0 (by omega)
  have t2 : (256 : Int) < (l1.length : Int) - 1 := by omega
  clear p1 hn
  go_wp2_with (fail)
  go_ret2
  exact ⟨rfl, k1⟩
theorem powmod_neg (b : Nat) (G : GFd) (t : Tabs G) (vp vm : Value) (n : Int) (m : List Int) (w : World) (hg : IsGF w b G) (hvm : Sl w vm m) (hl : m.length ≤ 100000) (hz : 0 < (t.pl m).ln) (hz2 : (t.pl m).ln ≤ 257) (hn : n < 0) :
    Calls Try.prog 48 #[.pointer (some ⟨b, 0, none⟩), vp, .int .i64 n, vm] w fun e w' => e = .returned (.tuple #[.slice none 0 0, .int .i64 6]) ∧ Kept w w' := by
  go_enter Try.func48, Try.ntmps48
  go_wp2_with (fail)
  refine (canon_p b G t vm m _ hg hvm (by omega)).mono ?_
  rintro e w1 ⟨v1, l1, rfl, o1, k1, c1, p1⟩
  have hn := t.can_ln' c1 p1
  have hn2 : l1.length ≤ 100000 := by have := t.pl_ln_le m; omega
  obtain ⟨a1, cp1, rfl, h1, h2⟩ := o1.sh
  have t1 : ((l1.length : Int) == 0) = false := beq0 (by omega)
  have t2 : (l1.length : Int) - 1 ≤ 256 := by omega
  clear p1 hn
  go_wp2_with (fail)
  go_ret2
  exact ⟨rfl, k1⟩

set_option maxRecDepth 100000 in
set_option maxHeartbeats 4000000 in
theorem powmod_p (b : Nat) (G : GFd) (t : Tabs G) (vp vm : Value) (p m : List Int) (n : Nat) (w : World) (hg : IsGF w b G) (hvp : Sl w vp p) (hvm : Sl w vm m) (hlp : p.length ≤ 100000) (hl : m.length ≤ 100000) (hz : 0 < (t.pl m).ln) (hz2 : (t.pl m).ln ≤ 257) (hn : (n : Int) ≤ 9223372036854775807) :
    Calls Try.prog 48 #[.pointer (some ⟨b, 0, none⟩), vp, .int .i64 n, vm] w (OutE G t (Pl.rem (Rg.pw (t.pl p) n) (t.pl m)) w) := by
  have hn0 : (0 : Int) ≤ (n : Int) := by omega
  go_enter Try.func48, Try.ntmps48
  go_wp2_with (fail)
  refine (canon_p b G t vm m _ hg hvm (by omega)).mono ?_
  rintro e w1 ⟨v1, l1, rfl, o1, k1, c1, p1⟩
  have hn1 := t.can_ln' c1 p1
  have hn2 : l1.length ≤ 257 := by omega
  have hm0 : t.pl l1 ≠ 0 := fun e => by rw [← p1, e, Pl.ln_zero] at hz; omega
  obtain ⟨a1, cp1, rfl, h1, h2⟩ := o1.sh
  have t1 : ((l1.length : Int) == 0) = false := beq0 (by omega)
  have t2 : (l1.length : Int) - 1 ≤ 256 := by omega
  have t3 : (0 : Int) < (l1.length : Int) := by omega
  have P1 := hid p1
  have HM0 := hid hm0
  have hg1 := hg.kept k1
  have hvp1 := hvp.kept k1
  clear p1 hm0 hn1 hg hvp hvm hz hz2
  have sm1 := o1.sl
  have kA := kept_alloc w1 (.cells #[.int .i64 1] 3)
  have oA := own_one (w := w1) (B := 0) (x := 1) (Nat.zero_le _)
  go_wp2_with (fail)
  refine (divmod_p b G t _ _ [1] l1 _ (hg1.kept kA) oA.sl (sm1.kept kA) (by simp) (by omega) HM0.out).mono ?_
  rintro e w2 ⟨vu2, vr2, lu2, lr2, rfl, ou2, or2, k2, cu2, cr2, pu2, pr2⟩
  have K2 := kA.tr k2
  have hg2 := hg1.kept K2
  have hvp2 := hvp1.kept K2
  have sm2 := sm1.kept K2
  have PR2 : Hid (t.pl lr2 = Pl.rem 1 (t.pl l1)) := hid (by rw [pr2, t.pl_one])
  have OR2 := or2.mono kA.size
  clear pu2 pr2 kA oA k2 ou2 cu2 or2 hvp1
  go_wp2_with (fail)
  refine (divmod_p b G t _ _ p l1 _ hg2 hvp2 sm2 (by omega) (by omega) HM0.out).mono ?_
  rintro e w3 ⟨vu3, vr3, lu3, lr3, rfl, ou3, or3, k3, cu3, cr3, pu3, pr3⟩
  have PR3 := hid pr3
  have hg3 := hg2.kept k3
  have sm3 := sm2.kept k3
  have OR2' := OR2.kept k3
  have OR3 := or3.mono K2.size
  have K3 := K2.tr k3
  clear pu3 pr3 k3 ou3 cu3 or3 hg2 hvp2 sm2 OR2 K2
  have hI : Hid (Pl.rem (t.pl lr2 * Rg.pw (t.pl lr3) n) (t.pl l1) = Pl.rem (Rg.pw (t.pl p) n) (t.pl m)) := hid (by
    rw [PR2.out, PR3.out, P1.out]
    refine (Pl.rem_cg (by rw [← P1.out]; exact HM0.out)).1 ?_
    have e1 := Pl.cg_mul (Pl.cg_symm (Pl.cg_rem 1 (t.pl m))) (Pl.cg_pw (Pl.cg_symm (Pl.cg_rem (t.pl p) (t.pl m))) n)
    rwa [Rg.one_mul] at e1)
  have hlr2 : lr2.length ≤ 257 := by have := t.can_ln' cr2 PR2.out; have := Pl.rem_lt 1 HM0.out; rw [t.can_ln c1] at this; omega
  have hlr3 : lr3.length ≤ 257 := by have := t.can_ln' cr3 PR3.out; have := Pl.rem_lt (t.pl p) HM0.out; rw [t.can_ln c1] at this; omega
  have hred : Hid (Pl.rem (t.pl lr2) (t.pl l1) = t.pl lr2) := hid (by rw [PR2.out]; exact Pl.rem_rem HM0.out 1)
  go_wp2_with (fail)
  go_loopw [2, 11, 14] (fun vn vo vb wr => ∃ (k : Nat) (lo lb : List Int), (k : Int) ≤ 9223372036854775807 ∧ vn = .int .i64 k ∧ Own wr w1.heap.size vo lo ∧ Own wr w1.heap.size vb lb ∧ Kept w1 wr ∧ Cano G lo ∧ Cano G lb ∧ lo.length ≤ 257 ∧ lb.length ≤ 257 ∧ Hid (Pl.rem (t.pl lo) (t.pl l1) = t.pl lo) ∧
      Hid (Pl.rem (t.pl lo * Rg.pw (t.pl lb) k) (t.pl l1) = Pl.rem (Rg.pw (t.pl p) n) (t.pl m))) (fun vn _ _ _ => (intOf vn).toNat)
  case atStart => exact ⟨n, lr2, lr3, hn, rfl, OR2', OR3, K3, cr2, cr3, hlr2, hlr3, hred, hI⟩
  case round =>
    obtain ⟨k, lo, lb, hk, rfl, oo, ob, hkw, co, cb, hlo, hlb, hred', hI'⟩ := hrel
    clear OR2' OR3 hlr2 hlr3 hred hI hg3 sm3 K3
    have hgw := hg1.kept hkw
    have smw := sm1.kept hkw
    by_cases hk0 : k = 0
    · subst hk0
      have HF : Hid (t.pl lo = Pl.rem (Rg.pw (t.pl p) n) (t.pl m)) := hid (by
        have := hI'.out
        rwa [Rg.pw_zero, Rg.mul_one, hred'.out] at this)
      go_wp2_with (fail)
      go_ret2
      exact ⟨_, lo, rfl, oo.mono k1.size, k1.tr hkw, co, HF.out⟩
    have tn : (0 : Int) < (k : Int) := by omega
    have tn0 : (0 : Int) ≤ (k : Int) := by omega
    have HK0 := hid hk0
    clear hk0
    by_cases hodd : k % 2 = 1
    · have tod : ((k : Int) % 2 == 1) = true := by simp; omega
      have HODD := hid hodd
      clear hodd
      go_wp2_with (fail)
      refine (product_p b G t _ _ lo lb _ hgw oo.sl ob.sl (by omega) (by omega)).mono ?_
      rintro e w4 ⟨v4, l4, rfl, o4, k4, c4, p4⟩
      have hl4 : l4.length ≤ 1000 := by have := t.can_ln' c4 p4; have := Pl.ln_mul_le (t.pl lo) (t.pl lb); have := t.pl_ln_le lo; have := t.pl_ln_le lb; omega
      have P4 := hid p4
      clear p4
      go_wp2_with (fail)
      refine (divmod_p b G t _ _ l4 l1 _ (hgw.kept k4) o4.sl (smw.kept k4) (by omega) (by omega) HM0.out).mono ?_
      rintro e w5 ⟨vu5, vr5, lu5, lr5, rfl, ou5, or5, k5, cu5, cr5, pu5, pr5⟩
      have PR5 : Hid (t.pl lr5 = Pl.rem (t.pl lo * t.pl lb) (t.pl l1)) := hid (by rw [pr5, P4.out])
      have K5 := k4.tr k5
      have ob5 := ob.kept K5
      have OR5 := or5.mono (hkw.tr k4).size
      have hlr5 : lr5.length ≤ 257 := by have := t.can_ln' cr5 PR5.out; have := Pl.rem_lt (t.pl lo * t.pl lb) HM0.out; rw [t.can_ln c1] at this; omega
      clear pu5 pr5 ou5 cu5 or5 o4 c4 hl4
      go_wp2_with (fail)
      refine (product_p b G t _ _ lb lb _ (hgw.kept K5) ob5.sl ob5.sl (by omega) (by omega)).mono ?_
      rintro e w6 ⟨v6, l6, rfl, o6, k6, c6, p6⟩
      have hl6 : l6.length ≤ 1000 := by have := t.can_ln' c6 p6; have := Pl.ln_mul_le (t.pl lb) (t.pl lb); have := t.pl_ln_le lb; omega
      have P6 := hid p6
      have K6 := K5.tr k6
      clear p6
      go_wp2_with (fail)
      refine (divmod_p b G t _ _ l6 l1 _ (hgw.kept K6) o6.sl (smw.kept K6) (by omega) (by omega) HM0.out).mono ?_
      rintro e w7 ⟨vu7, vr7, lu7, lr7, rfl, ou7, or7, k7, cu7, cr7, pu7, pr7⟩
      have PR7 : Hid (t.pl lr7 = Pl.rem (t.pl lb * t.pl lb) (t.pl l1)) := hid (by rw [pr7, P6.out])
      have hlr7 : lr7.length ≤ 257 := by have := t.can_ln' cr7 PR7.out; have := Pl.rem_lt (t.pl lb * t.pl lb) HM0.out; rw [t.can_ln c1] at this; omega
      have KR := (hkw.tr K6).tr k7
      have OR5' := OR5.kept (k6.tr k7)
      have OR7 := or7.mono (hkw.tr K6).size
      have HR : Hid (Pl.rem (t.pl lr5) (t.pl l1) = t.pl lr5) := hid (by rw [PR5.out]; exact Pl.rem_rem HM0.out _)
      have HI : Hid (Pl.rem (t.pl lr5 * Rg.pw (t.pl lr7) (k / 2)) (t.pl l1) = Pl.rem (Rg.pw (t.pl p) n) (t.pl m)) := hid (by
        rw [PR5.out, PR7.out, Pl.pow_odd HM0.out HODD.out, hI'.out])
      clear pu7 pr7 ou7 cu7 or7 o6 c6 hl6
      go_wp2_with (fail)
      go_roundw
      case rel => exact ⟨k / 2, lr5, lr7, by omega, val_int (by omega), OR5', OR7, KR, cr5, cr7, hlr5, hlr7, HR, HI⟩
      case measure => have := HK0.out; simp [intOf]; omega
    · have tod : ((k : Int) % 2 == 1) = false := by simp; omega
      have HEV : Hid (k % 2 = 0) := hid (by omega)
      clear hodd
      go_wp2_with (fail)
      refine (product_p b G t _ _ lb lb _ hgw ob.sl ob.sl (by omega) (by omega)).mono ?_
      rintro e w6 ⟨v6, l6, rfl, o6, k6, c6, p6⟩
      have hl6 : l6.length ≤ 1000 := by have := t.can_ln' c6 p6; have := Pl.ln_mul_le (t.pl lb) (t.pl lb); have := t.pl_ln_le lb; omega
      have P6 := hid p6
      clear p6
      go_wp2_with (fail)
      refine (divmod_p b G t _ _ l6 l1 _ (hgw.kept k6) o6.sl (smw.kept k6) (by omega) (by omega) HM0.out).mono ?_
      rintro e w7 ⟨vu7, vr7, lu7, lr7, rfl, ou7, or7, k7, cu7, cr7, pu7, pr7⟩
      have PR7 : Hid (t.pl lr7 = Pl.rem (t.pl lb * t.pl lb) (t.pl l1)) := hid (by rw [pr7, P6.out])
      have hlr7 : lr7.length ≤ 257 := by have := t.can_ln' cr7 PR7.out; have := Pl.rem_lt (t.pl lb * t.pl lb) HM0.out; rw [t.can_ln c1] at this; omega
      have KR := (hkw.tr k6).tr k7
      have OO := oo.kept (k6.tr k7)
      have OR7 := or7.mono (hkw.tr k6).size
      have HI : Hid (Pl.rem (t.pl lo * Rg.pw (t.pl lr7) (k / 2)) (t.pl l1) = Pl.rem (Rg.pw (t.pl p) n) (t.pl m)) := hid (by
        rw [PR7.out, Pl.pow_even HM0.out HEV.out, hI'.out])
      clear pu7 pr7 ou7 cu7 or7 o6 c6 hl6
      go_wp2_with (fail)
      go_roundw
      case rel => exact ⟨k / 2, lo, lr7, by omega, val_int (by omega), OO, OR7, KR, co, cr7, hlo, hlr7, hred', HI⟩
      case measure => have := HK0.out; simp [intOf]; omega
end Go.Proofs.Ytjoednmoginhpaa
