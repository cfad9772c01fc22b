/- The walks of the key equation's low, Holds and Locator. Conditions: the field lies in memory with its tables; lengths are bounded. The walk of Euclid's algorithm for the key equation. Conditions: the field lies in memory with its tables; lengths are bounded. The walks of the key equation's Holds, Locator and Solve. Conditions: the field lies in memory with its tables; lengths are bounded. The walk of the key equation's Solve. Conditions: the field lies in memory with its tables; lengths are bounded. The walks of the key equation's Forney and Chien. Conditions: the field lies in memory with its tables; lengths are bounded. The walk of the key equation's Syndrome. Conditions: the field lies in memory with its tables; lengths are bounded. The walk of the key equation's Gao, where a polynomial of a low degree has all but few of the values. Conditions: the field lies in memory with its tables; lengths are bounded. -/
import Derived.Test.YtmnbcnbhnclkhaaKh
import Derived.Test.YtmnbcnbhnclkhaaNaA
import Derived.Test.YtmnbcnbhnclkhaaHa
import Derived.Test.YtmnbcnbhnclkhaaOa
import Derived.Test.YtmnbcnbhnclkhaaKx
import Derived.Test.YtmnbcnbhnclkhaaMz
import Derived.Test.YtmnbcnbhnclkhaaGe
import Derived.Test.YtmnbcnbhnclkhaaKg
import Derived.Test.YtmnbcnbhnclkhaaKm
namespace Go.Proofs.Ytmnbcnbhnclkhaa
open Go.RowKit Cw

theorem sl_take {w : World} {a : Option Addr} {n cap k : Nat} {l : List Int} (h : Sl w (.slice a n cap) l) (hk : k ≤ l.length) : Sl w (.slice a k cap) (l.take k) := by
  obtain ⟨_, _, e, h1, h2, hc⟩ := h
  cases e
  have hl : (l.take k).length = k := by rw [List.length_take]; omega
  refine ⟨_, _, by rw [hl], by omega, h2, fun hne => ?_⟩
  have hl0 : l ≠ [] := fun e => hne (by rw [e]; simp)
  obtain ⟨b, off, rfl, hb, hcell⟩ := hc hl0
  refine ⟨b, off, rfl, hb, fun i hi => ?_⟩
  rw [hl] at hi
  rw [hcell i (by omega)]
  simp [List.getD, hi]
/-- How many of the n coefficients lie below x^r. -/
def lowN (n : Nat) (r : Int) : Nat := min n r.toNat
theorem lowN_le (n : Nat) (r : Int) : lowN n r ≤ n := Nat.min_le_left _ _
theorem ret_sl {a : Option Addr} {n m cap : Nat} (h : n = m) : Ending.returned (.slice a n cap) = .returned (.slice a m cap) := by rw [h]
theorem low_s (a : Option Addr) (cap : Nat) (p : List Int) (r : Int) (w : World) (hv : Sl w (.slice a p.length cap) p) (hl : p.length ≤ 1000000) :
    Calls Try.prog 47 #[.slice a p.length cap, .int .i64 r] w fun e w' => e = .returned (.slice a (lowN p.length r) cap) ∧ Sl w' (.slice a (lowN p.length r) cap) (p.take (lowN p.length r)) ∧ Kept w w' := by
  have hs := sl_take hv (lowN_le p.length r)
  obtain ⟨_, _, e, h1, ⟨h2, _⟩, _⟩ := hv
  cases e
  unfold maxLen at h2
  obtain ⟨k, hk⟩ : ∃ k, k = lowN p.length r := ⟨_, rfl⟩
  have HK := hid hk
  rw [← hk] at hs ⊢
  unfold lowN at hk
  clear hk
  go_enter Try.func47, Try.ntmps47
  go_wp2_with (fail)
  all_goals
    go_ret
    exact ⟨ret_sl (by rw [HK.out]; unfold lowN; omega), hs, Kept.rfl' _⟩
end Go.Proofs.Ytmnbcnbhnclkhaa
namespace Go.Proofs.Ytmnbcnbhnclkhaa
open Go.RowKit Cw

/-- What Euclid's algorithm hands back, stopped at the bound. -/
def OutU (G : GFd) (t : Tabs G) (P Q : Pl (Rs t.fs.mon)) (bound : Int) (w : World) (e : Ending) (w' : World) : Prop :=
  ∃ vb vt lb lt, e = .returned (.tuple #[vb, vt]) ∧ Sl w' vb lb ∧ Own w' w.heap.size vt lt ∧ Kept w w' ∧ Cano G lb ∧ Cano G lt ∧ Pl.EuEnd P Q (t.pl lb) (t.pl lt) bound
theorem eu_lens {α : Type} [Cw.Fd α] {a0 s a b o t : Pl α} (h : Pl.Eu a0 s a b o t) (hl : o.ln < t.ln + (a.ln - b.ln)) {n : Nat} (hn : a0.ln ≤ n) : a.ln ≤ n + 1 ∧ b.ln ≤ n ∧ t.ln ≤ n ∧ o.ln ≤ 2 * n + 2 := by
  have h1 := h.len
  have h2 := h.lt
  have h3 := Pl.ln_pos h.tn
  omega
theorem quo_le {α : Type} [Cw.Fd α] (a : Pl α) {b : Pl α} (hb : b ≠ 0) : (Pl.quo a b).ln ≤ a.ln := by
  by_cases h : Pl.quo a b = 0
  · rw [h, Pl.ln_zero]; omega
  · have := Pl.quo_len a hb h
    have := Pl.ln_pos hb
    omega
theorem two_len {l1 l2 : List Int} (h1 : l1.length ≤ 1000) (h2 : l2.length ≤ 1000) : ∀ i, ([l1, l2].getD i []).length ≤ 1000
  | 0 => h1
  | 1 => h2
  | i + 2 => by simp [List.getD]
theorem prP_two {G : GFd} (t : Tabs G) (p q : List Int) : prP t [p, q] [p, q].length = t.pl p * t.pl q := by
  show 1 * t.pl p * t.pl q = _
  rw [Rg.one_mul]
set_option maxRecDepth 100000 in
set_option maxHeartbeats 4000000 in
theorem euclid_p (b : Nat) (G : GFd) (t : Tabs G) (va : Value) (ab : Option Addr) (cb : Nat) (la0 lb0 : List Int) (bound : Int) (w : World) (hg : IsGF w b G) (hva : Sl w va la0) (hvb : Sl w (.slice ab lb0.length cb) lb0) (hca : la0.length ≤ 300) (hcb : Cano G lb0) (hlt : (t.pl lb0).ln < (t.pl la0).ln) (hb0 : 0 ≤ bound) (hb1 : bound ≤ 2 * (((t.pl la0).ln : Int) - 1)) :
    Calls Try.prog 46 #[.pointer (some ⟨b, 0, none⟩), va, .slice ab lb0.length cb, .int .i64 bound] w (OutU G t (t.pl la0) (t.pl lb0) bound w) := by
  have hE0 : Hid (Pl.Eu (t.pl la0) (t.pl lb0) (t.pl la0) (t.pl lb0) (t.pl []) (t.pl [1])) := hid (by rw [t.pl_nil, t.pl_one]; exact Pl.eu_start hlt)
  have hL0 : Hid ((t.pl []).ln < (t.pl [1]).ln + ((t.pl la0).ln - (t.pl lb0).ln)) := hid (by rw [t.pl_nil, t.pl_one, Pl.ln_zero, Pl.ln_one]; omega)
  have hB0 : Hid (bound ≤ 2 * (((t.pl la0).ln : Int) - 1)) := hid hb1
  have hn0 : (t.pl la0).ln ≤ 300 := by have := t.pl_ln_le la0; omega
  have HN0 := hid hn0
  obtain ⟨_, _, e, hcb1, ⟨hcb2, _⟩, _⟩ := id hvb
  cases e
  unfold maxLen at hcb2
  have kA := kept_alloc w (.cells #[] 3)
  have oA := own_zero (w := w) (B := w.heap.size) (Nat.le_refl _)
  have kB := kA.tr (kept_alloc (w.alloc (.cells #[] 3)) (.cells #[.int .i64 1] 3))
  have oA' := oA.kept (kept_alloc (w.alloc (.cells #[] 3)) (.cells #[.int .i64 1] 3))
  have oB := own_one (w := w.alloc (.cells #[] 3)) (B := w.heap.size) (x := 1) (by simp)
  rw [World.size_alloc] at oB
  have sA := oA'.sl
  have cA : Cano G lb0 := hcb
  have sa0 := hva.kept kB
  have sb0 := hvb.kept kB
  have c1 := cano_one t
  clear hlt hb1 hn0 kA oA oA'
  go_enter Try.func46, Try.ntmps46
  go_wp2_with (fail)
  go_loopw [1, 2, 9, 10] (fun va vb vt vo wr => ∃ (la lb lt lo : List Int) (ab : Option Addr) (cb : Nat), vb = .slice ab lb.length cb ∧ Sl wr va la ∧ Sl wr vb lb ∧ Own wr w.heap.size vt lt ∧ Sl wr vo lo ∧ Kept w wr ∧ Cano G lb ∧ Cano G lt ∧ la.length ≤ 300 ∧ lo.length ≤ 700 ∧ Hid (Pl.Eu (t.pl la0) (t.pl lb0) (t.pl la) (t.pl lb) (t.pl lo) (t.pl lt)) ∧ Hid ((t.pl lo).ln < (t.pl lt).ln + ((t.pl la).ln - (t.pl lb).ln)) ∧ Hid (bound ≤ 2 * (((t.pl la).ln : Int) - 1))) (fun _ vb _ _ _ => lenV vb)
  case atStart => exact ⟨la0, lb0, [1], [], ab, cb, rfl, sa0, sb0, oB, sA, kB, hcb, c1, hca, by simp, hE0, hL0, hB0⟩
  case round =>
    obtain ⟨la, lb, lt, lo, ab, cb, rfl, sa, sb, ot, so, hkw, cb', ct, hla, hlo, hE, hL, hB⟩ := hrel
    clear sA sa0 sb0 oB kB hE0 hL0 hB0 c1 cA
    have hgw := hg.kept hkw
    have HLN : Hid ((t.pl lb).ln = lb.length) := hid (t.can_ln cb')
    have hlb : lb.length ≤ 300 := by have := (eu_lens hE.out hL.out HN0.out).2.1; rw [HLN.out] at this; exact this
    have hltn : lt.length ≤ 300 := by have := (eu_lens hE.out hL.out HN0.out).2.2.1; rw [t.can_ln ct] at this; exact this
    have w1' : IntKind.i64.wrap (2 * ((lb.length : Int) - 1)) = 2 * ((lb.length : Int) - 1) := IntWalk.i64_in _ (by omega)
    obtain ⟨_, _, e, hx1, ⟨hx2, _⟩, _⟩ := id sb
    cases e
    unfold maxLen at hx2
    by_cases hbd : bound ≤ 2 * ((lb.length : Int) - 1)
    · have hpos : 0 < lb.length := by omega
      have HZ : Hid (t.pl lb ≠ 0) := hid (fun e => by have := (t.pl_zero cb').1 e; rw [this] at hpos; simp at hpos)
      have HBD := hid hbd
      obtain ⟨at', ct', rfl, hy1, hy2⟩ := ot.sh
      have st := ot.sl
      clear hpos
      go_wp2_with (first
        | (go_at_call 61; (with_reducible refine (degree_p b G t _ lb _ hgw sb (by omega)).mono ?_); rintro e w3 ⟨rfl, k3⟩; rw [HLN.out]; have hgw := hgw.kept k3; have sa := sa.kept k3; have sb := sb.kept k3; have st := st.kept k3; have so := so.kept k3; have hkw := hkw.tr k3; clear k3)
        | (go_at_call 70; (with_reducible refine (divmod_p b G t _ _ la lb _ hgw sa sb (by omega) (by omega) HZ.out).mono ?_); rintro e w4 ⟨vu, vr, lu, lr, rfl, ou, orr, k4, cu, cr, pu, pr⟩; have PU := hid pu; have PR := hid pr; clear pu pr; have nlu : lu.length ≤ 300 := (by have h1 := t.can_ln' cu PU.out; have h2 := quo_le (t.pl la) HZ.out; have h3 := t.pl_ln_le la; omega); obtain ⟨au, cu', rfl, hu1, hu2⟩ := ou.sh; obtain ⟨ar, cr', rfl, hr1, hr2⟩ := orr.sh; have su := ou.sl; have sr := orr.sl; have hgw := hgw.kept k4; have sa := sa.kept k4; have sb := sb.kept k4; have st := st.kept k4; have so := so.kept k4; have hkw := hkw.tr k4; clear k4)
        | (go_at_call 63; go_loud ((with_reducible refine (pmul_p b G t _ _ [lu, lt] (hgw.kept (kept_alloc _ _)) (sll_two _ _ _ _ _ _ _ _ su st) (by simp) (two_len (by omega) (by omega))).mono ?_); rintro e w5 ⟨v5, l5, rfl, o5, k5, c5, p5⟩; have kk := (kept_alloc _ _).tr k5; have P5 : Hid (t.pl l5 = t.pl lu * t.pl lt) := hid (p5.trans (prP_two t lu lt)); have s5 := o5.sl; have n5 : l5.length ≤ 1000 := (by have := t.can_ln' c5 P5.out; have := Pl.ln_mul_le (t.pl lu) (t.pl lt); have := t.pl_ln_le lu; have := t.pl_ln_le lt; omega); have hgw := hgw.kept kk; have sb := sb.kept kk; have sr := sr.kept kk; have st := st.kept kk; have so := so.kept kk; have hkw := hkw.tr kk; clear p5 k5 kk))
        | (go_at_call 62; (with_reducible refine (psub_p b G t _ _ lo l5 _ hgw so s5 (by omega) (by omega)).mono ?_); rintro e w6 ⟨v6, l6, rfl, o6, k6, c6, p6⟩; have P6 := hid p6; have sb := sb.kept k6; have sr := sr.kept k6; have st := st.kept k6; have o6 := o6.mono hkw.size; have hkw := hkw.tr k6; clear p6 k6))
      have HST := Pl.eu_step hE.out HZ.out hL.out
      rw [← PR.out, ← PU.out, ← P5.out, ← P6.out] at HST
      have HB' : Hid (bound ≤ 2 * (((t.pl lb).ln : Int) - 1)) := hid (by rw [HLN.out]; exact HBD.out)
      have hlr : lr.length < lb.length := by
        have h1 := t.can_ln' cr PR.out
        have h2 := Pl.rem_lt (t.pl la) HZ.out
        rw [HLN.out] at h2
        omega
      go_roundw
      case rel => exact ⟨lb, lr, l6, lt, _, _, rfl, sb, sr, o6, st, hkw, cr, c6, hlb, by omega, hid HST.1, hid HST.2, HB'⟩
      case measure => simpa [lenV] using hlr
    · have HBD : Hid (2 * (((t.pl lb).ln : Int) - 1) < bound) := hid (by rw [HLN.out]; omega)
      have hbd' : 2 * ((lb.length : Int) - 1) < bound := by omega
      have st := ot.sl
      clear hbd
      go_wp2_with (go_at_call 61; (with_reducible refine (degree_p b G t _ lb _ hgw sb (by omega)).mono ?_); rintro e w3 ⟨rfl, k3⟩; rw [HLN.out]; have sb := sb.kept k3; have ot := ot.kept k3; have hkw := hkw.tr k3; clear k3)
      go_ret2
      exact ⟨_, _, lb, lt, rfl, sb, ot, hkw, cb', ct, Pl.Eu.fin hE.out hB.out HBD.out⟩
end Go.Proofs.Ytmnbcnbhnclkhaa
namespace Go.Proofs.Ytmnbcnbhnclkhaa
open Go.RowKit Cw

theorem low_at {G : GFd} (t : Tabs G) (l : List Int) (r : Int) {i : Nat} (hi : (i : Int) < r) : (t.pl (l.take (lowN l.length r))).a i = (t.pl l).a i := by
  rw [t.pl_at, t.pl_at]
  congr 1
  unfold lowN
  by_cases h : i < l.length
  · have h2 : i < min l.length r.toNat := by omega
    simp only [List.getD, List.getElem?_take, if_pos h2]
  · rw [ld_out (by rw [List.length_take]; omega), ld_out (by omega)]
theorem low_out {G : GFd} (t : Tabs G) (l : List Int) (r : Int) {i : Nat} (hi : r ≤ (i : Int)) : (t.pl (l.take (lowN l.length r))).a i = 0 := by
  rw [t.pl_at, ld_out (by rw [List.length_take]; unfold lowN; omega), t.e_zero]
theorem low_zero {G : GFd} (t : Tabs G) (l : List Int) (r : Int) : t.pl (l.take (lowN l.length r)) = 0 ↔ ∀ i : Nat, (i : Int) < r → (t.pl l).a i = 0 := by
  constructor
  · intro h i hi
    rw [← low_at t l r hi, h]
    rfl
  · intro h
    refine Pl.ext (PS.ext fun i => ?_)
    by_cases hi : (i : Int) < r
    · exact (low_at t l r hi).trans (h i hi)
    · exact low_out t l r (by omega)
/-- The key equation: the coefficients below x^r agree. -/
def KeyP {G : GFd} (t : Tabs G) (s : List Int) (r : Int) (L V : List Int) : Prop := ∀ i : Nat, (i : Int) < r → (t.pl L * t.pl s).a i = (t.pl V).a i
theorem key_low {G : GFd} (t : Tabs G) {s L V l : List Int} (r : Int) (h : t.pl l = t.pl L * t.pl s - t.pl V) : (t.pl (l.take (lowN l.length r))).ln = 0 ↔ KeyP t s r L V := by
  rw [Pl.ln_eq_zero, low_zero]
  constructor
  · intro k i hi
    have := k i hi
    rw [h, Pl.sub_a, PS.sub_at] at this
    exact Rg.sub_eq_zero this
  · intro k i hi
    rw [h, Pl.sub_a, PS.sub_at, k i hi, Rg.sub_self]
theorem hold_fin {d : Nat} {res : Bool} {p : Prop} (h1 : d = 0 ↔ p) (h2 : BIf res p) : decide ((d : Int) - 1 < 0) = res := by
  have h2 : res = true ↔ p := h2
  by_cases h : d = 0
  · rw [h2.2 (h1.1 h)]; simp; omega
  · have : res = false := by
      cases res with
      | false => rfl
      | true => exact absurd (h1.2 (h2.1 rfl)) h
    rw [this]; simp; omega
set_option maxRecDepth 100000 in
set_option maxHeartbeats 2000000 in
theorem kHolds_r (b : Nat) (G : GFd) (t : Tabs G) (vs vL vV : Value) (s L V : List Int) (r : Int) (res : Bool) (w : World) (hg : IsGF w b G) (hs : Sl w vs s) (hL : Sl w vL L) (hV : Sl w vV V) (nL : L.length ≤ 300) (ns : s.length ≤ 300) (nV : V.length ≤ 300) (hr : BIf res (KeyP t s r L V)) :
    Calls Try.prog 31 #[.pointer (some ⟨b, 0, none⟩), vs, .int .i64 r, vL, vV] w fun e w' => e = .returned (.bool res) ∧ Kept w w' := by
  obtain ⟨aL, cL, rfl, hL1, hL2⟩ := sl_len hL
  obtain ⟨aS, cS, rfl, hs1, hs2⟩ := sl_len hs
  have HR := hid hr
  clear hr
  go_enter Try.func31, Try.ntmps31
  go_wp2_with (first
    | (go_at_call 63; go_loud ((with_reducible refine (pmul_p b G t _ _ [L, s] (hg.kept (kept_alloc _ _)) (sll_two _ _ _ _ _ _ _ _ hL hs) (by simp) (two_len (by omega) (by omega))).mono ?_); rintro e w5 ⟨v5, l5, rfl, o5, k5, c5, p5⟩; have kk := (kept_alloc _ _).tr k5; have P5 : Hid (t.pl l5 = t.pl L * t.pl s) := hid (p5.trans (prP_two t L s)); have s5 := o5.sl; have n5 : l5.length ≤ 1000 := (by have := t.can_ln' c5 P5.out; have := Pl.ln_mul_le (t.pl L) (t.pl s); have := t.pl_ln_le L; have := t.pl_ln_le s; omega); have hg := hg.kept kk; have hV := hV.kept kk; clear p5 k5))
    | (go_at_call 62; go_loud ((with_reducible refine (psub_p b G t _ _ l5 V _ hg s5 hV (by omega) (by omega)).mono ?_); rintro e w6 ⟨v6, l6, rfl, o6, k6, c6, p6⟩; have P6 : Hid (t.pl l6 = t.pl L * t.pl s - t.pl V) := hid (by rw [p6, P5.out]); have n6 : l6.length ≤ 1000 := (by have := t.can_ln' c6 p6; have := Pl.ln_sub_le (p := t.pl l5) (q := t.pl V) (n := 1000) (by have := t.pl_ln_le l5; omega) (by have := t.pl_ln_le V; omega); omega); have hg := hg.kept k6; obtain ⟨a6, c6', rfl, h61, h62⟩ := o6.sh; have s6 := o6.sl; have kk := kk.tr k6; clear p6 k6))
    | (go_at_call 47; go_loud ((with_reducible refine (low_s a6 c6' l6 r _ s6 (by omega)).mono ?_); rintro e w7 ⟨rfl, s7, k7⟩; have hg := hg.kept k7; have kk := kk.tr k7; clear k7))
    | (go_at_call 61; go_loud ((with_reducible refine (degree_p b G t _ (l6.take (lowN l6.length r)) _ hg s7 (by rw [List.length_take]; omega)).mono ?_); rintro e w8 ⟨rfl, k8⟩; have HD := hid (key_low t r P6.out); obtain ⟨d, hd⟩ : ∃ d, d = (t.pl (l6.take (lowN l6.length r))).ln := ⟨_, rfl⟩; rw [← hd] at HD; rw [← hd]; have kk := kk.tr k8; clear hd k8)))
  go_ret
  exact ⟨ret_bool (hold_fin HD.out HR.out), kk⟩
theorem sll_twoN (w : World) (b : Nat) (hb : b = w.heap.size) (a1 a2 : Option Addr) (n1 n2 c1 c2 : Nat) (l1 l2 : List Int) (T : TypeId) (e1 : l1.length = n1) (e2 : l2.length = n2) (h1 : Sl w (.slice a1 n1 c1) l1) (h2 : Sl w (.slice a2 n2 c2) l2) :
    SlL (w.alloc (.cells #[.slice a1 n1 c1, .slice a2 n2 c2] T)) (.slice (some ⟨b, 0, none⟩) 2 2) [l1, l2] := by
  subst e1 e2 hb
  exact sll_two w _ _ _ _ _ _ T h1 h2
theorem pl_fac {G : GFd} (t : Tabs G) (a : Int) : t.pl [1, negG G a] = Pl.fac (t.e a) := by
  rw [t.pl_cons, t.pl_single, t.e_one, t.e_neg, Pl.c_one, Pl.c_neg, Rg.mul_neg, Rg.mul_comm]
  unfold Pl.fac
  rw [Rg.sub_def]
set_option maxRecDepth 100000 in
set_option maxHeartbeats 2000000 in
theorem kLocator_p (b : Nat) (G : GFd) (t : Tabs G) (v : Value) (l : List Int) (w : World) (hg : IsGF w b G) (hv : Sl w v l) (hl : l.length ≤ 200) :
    Calls Try.prog 33 #[.pointer (some ⟨b, 0, none⟩), v] w (OutP G t (Pl.lcf (fun i => t.e (l.getD i 0)) l.length) w) := by
  have HV := hid hv
  obtain ⟨a, cap, rfl, hcap, ⟨hcm, _⟩, _⟩ := hv
  unfold maxLen at hcm
  have k0 := kept_alloc w (.cells #[.int .i64 1] 3)
  have o0 := own_one (w := w) (B := w.heap.size) (x := 1) (Nat.le_refl _)
  have h0 : Hid (t.pl [1] = Pl.lcf (fun i => t.e (l.getD i 0)) 0) := hid t.pl_one
  go_enter Try.func33, Try.ntmps33
  go_wp2_with (fail)
  go_loopw [5, 11] (fun vo vi wr => ∃ (k : Nat) (lo : List Int), k ≤ l.length ∧ vi = .int .i64 k ∧ Own wr w.heap.size vo lo ∧ Kept w wr ∧ Cano G lo ∧ Hid (t.pl lo = Pl.lcf (fun i => t.e (l.getD i 0)) k)) (fun _ vi _ => l.length - (intOf vi).toNat)
  case atStart => exact ⟨0, [1], by omega, rfl, o0, k0, cano_one t, h0⟩
  case round =>
    obtain ⟨k, lo, hk, rfl, ho, hkw, hc, hp⟩ := hrel
    clear o0 k0 h0
    by_cases hlt : k < l.length
    · obtain ⟨_, _, e2, _, _, hcc⟩ := HV.out.kept hkw
      cases e2
      obtain ⟨bb, off, e3, hbb, hcell⟩ := hcc (by intro e; rw [e] at hlt; simp at hlt)
      cases e3
      have hck := hcell k hlt
      have HQ : Hid (Pl.lcf (fun i => t.e (l.getD i 0)) (k + 1) = Pl.lcf (fun i => t.e (l.getD i 0)) k * Pl.fac (t.e (l.getD k 0))) := hid rfl
      obtain ⟨z, hz⟩ : ∃ z, z = l.getD k 0 := ⟨_, rfl⟩
      rw [← hz] at hck HQ
      have hlo : lo.length ≤ 300 := by have := t.can_ln' hc hp.out; have := Pl.lcf_ln (fun i => t.e (l.getD i 0)) k; omega
      have hgw := hg.kept hkw
      have hki : (k : Int) < (l.length : Int) := by omega
      have k0 : (0 : Int) ≤ (k : Int) := by omega
      obtain ⟨ao, co, rfl, hy1, hy2⟩ := ho.sh
      have hos := ho.sl
      clear hcell hcc hz
      go_wp2_with (first
        | (go_at_call 56; go_loud ((with_reducible refine (neg_any b G z _ hgw t).mono ?_); rintro e w2 ⟨rfl, n2, rfl⟩; have sN : Sl ((wr.drewN n2).alloc (.cells #[.int .i64 1, .int .i64 (negG G z)] 3)) (.slice (some ⟨wr.heap.size, 0, none⟩) 2 2) [1, negG G z] := (own_two (w := wr.drewN n2) (B := 0) (x := 1) (y := negG G z) (Nat.zero_le _)).sl; have kN := (kept_drewN wr n2).tr (kept_alloc (wr.drewN n2) (.cells #[.int .i64 1, .int .i64 (negG G z)] 3))))
        | (go_at_call 63; go_loud ((with_reducible refine (pmul_p b G t _ _ [lo, [1, negG G z]] ((hgw.kept kN).kept (kept_alloc _ _)) (sll_twoN _ (wr.heap.size + 1) (by simp) _ _ _ 2 _ _ _ _ _ rfl rfl (hos.kept kN) sN) (by simp) (two_len (by omega) (by simp))).mono ?_); rintro e w5 ⟨v5, l5, rfl, o5, k5, c5, p5⟩; have kk := (kN.tr (kept_alloc _ _)).tr k5; have P5 : Hid (t.pl l5 = Pl.lcf (fun i => t.e (l.getD i 0)) (k + 1)) := hid (by rw [p5, prP_two, hp.out, pl_fac, HQ.out]))))
      have o5 := o5.mono (B' := w.heap.size) (by have := hkw.size; have := kN.size; simp at *; omega)
      go_roundw
      case rel => exact ⟨k + 1, l5, by omega, by go_num, o5, hkw.tr kk, c5, P5⟩
      case measure => simp [intOf]; omega
    · have ek : k = l.length := by omega
      have HP : Hid (t.pl lo = Pl.lcf (fun i => t.e (l.getD i 0)) l.length) := hid (by rw [hp.out, ek])
      clear ek
      go_wp2_with (fail)
      go_ret
      exact ⟨_, lo, rfl, ho, hkw, hc, HP.out⟩
end Go.Proofs.Ytmnbcnbhnclkhaa
namespace Go.Proofs.Ytmnbcnbhnclkhaa
open Go.RowKit Cw

theorem kSolve_range (b : Nat) (vs : Value) (r f : Int) (w : World) (h : r < 1 ∨ 256 < r ∨ f < 0 ∨ r < f) :
    Calls Try.prog 19 #[.pointer (some ⟨b, 0, none⟩), vs, .int .i64 r, .int .i64 f] w fun e w' => e = .returned (.tuple #[.slice none 0 0, .slice none 0 0, .int .i64 6]) ∧ Kept w w' := by
  have hc : r < 1 ∨ (1 ≤ r ∧ 256 < r) ∨ (1 ≤ r ∧ r ≤ 256 ∧ f < 0) ∨ (1 ≤ r ∧ r ≤ 256 ∧ 0 ≤ f ∧ r < f) := by omega
  clear h
  rcases hc with g1 | ⟨g1, g2⟩ | ⟨g1, g2, g3⟩ | ⟨g1, g2, g3, g4⟩
  all_goals
    go_enter Try.func19, Try.ntmps19
    go_wp2_with (fail)
    go_ret3
    exact ⟨rfl, Kept.rfl' _⟩
/-- What Solve hands back. -/
def OutS (G : GFd) (t : Tabs G) (S : Pl (Rs t.fs.mon)) (r f : Nat) (w : World) (e : Ending) (w' : World) : Prop :=
  ∃ vL vV lL lV, e = .returned (.tuple #[vL, vV, .int .i64 0]) ∧ Own w' w.heap.size vL lL ∧ Own w' w.heap.size vV lV ∧ Kept w w' ∧ Cano G lL ∧ Cano G lV ∧ Pl.SolvP S (t.pl lL) (t.pl lV) r f
def OutN (G : GFd) (t : Tabs G) (S : Pl (Rs t.fs.mon)) (r f : Nat) (w : World) (e : Ending) (w' : World) : Prop :=
  e = .returned (.tuple #[.slice none 0 0, .slice none 0 0, .int .i64 12]) ∧ Kept w w' ∧ Pl.SolvN S r f
theorem pl_power1 {G : GFd} (t : Tabs G) (r : Nat) : t.pl (List.replicate r 0 ++ [1]) = Pl.x r := by rw [pl_shift, t.pl_one, Rg.mul_one]
theorem low_ln {G : GFd} (t : Tabs G) (s : List Int) (r : Nat) : (t.pl (s.take (lowN s.length (r : Int)))).ln ≤ r := Pl.ln_le.2 fun i hi => low_out t s r (by omega)
theorem low_cg {G : GFd} (t : Tabs G) (s : List Int) (r : Nat) : Pl.Cg (Pl.x r) (t.pl (s.take (lowN s.length (r : Int)))) (t.pl s) := Pl.cg_x.2 fun i hi => low_at t s r (by omega)
theorem can_head {G : GFd} (t : Tabs G) {l : List Int} (hc : Cano G l) : (t.pl l).a 0 = 0 ↔ l.getD 0 0 = 0 := by
  rw [t.pl_at, t.e_nz, inn_yes (t.can_range' hc 0)]
set_option maxRecDepth 100000 in
set_option maxHeartbeats 4000000 in
theorem kSolve_p (b : Nat) (G : GFd) (t : Tabs G) (vs : Value) (s : List Int) (r f : Nat) (w : World) (hg : IsGF w b G) (hs : Sl w vs s) (ns : s.length ≤ 1000) (hr1 : 1 ≤ r) (hr2 : r ≤ 256) (hf : f ≤ r) :
    Calls Try.prog 19 #[.pointer (some ⟨b, 0, none⟩), vs, .int .i64 r, .int .i64 f] w fun e w' => OutS G t (t.pl s) r f w e w' ∨ OutN G t (t.pl s) r f w e w' := by
  obtain ⟨aS, cS, rfl, hs1, hs2⟩ := sl_len hs
  have r1 : (1 : Int) ≤ (r : Int) := by omega
  have r2 : (r : Int) ≤ 256 := by omega
  have f1 : (0 : Int) ≤ (f : Int) := by omega
  have f2 : (f : Int) ≤ (r : Int) := by omega
  have w1' : IntKind.i64.wrap ((r : Int) + (f : Int)) = (r : Int) + (f : Int) := IntWalk.i64_in _ (by omega)
  go_enter Try.func19, Try.ntmps19
  go_wp2_with (first
    | (at_make; refine wpList_make_ints rfl _ _ rfl r _ _ rfl rfl rfl rfl (by omega) ?_; intro w2 ho hk)
    | (at_builtin; (refine wpList_append_one rfl (.tmp 32) (.tmp 33) rfl w.heap.size _ (List.replicate r 0) rfl (ho.kept (kept_alloc _ _)) ⟨w2.heap.size, 0, none⟩ 1 rfl (cell_new rfl) (by rw [List.length_replicate]; omega) (by have := hk.size; simp; omega) ?_); intro v3 w3 o3 gr3; have k3 : Kept w w3 := below_append (hk.tr (kept_alloc _ _)) (by have := hk.size; simp; omega) (ho.kept (kept_alloc _ _)) (Nat.le_refl _) gr3; have hg3 := hg.kept k3; have hs3 := hs.kept k3; have s3 := o3.sl; clear gr3 ho hk)
    | (go_at_call 47; (with_reducible refine (low_s aS cS s r _ hs3 (by omega)).mono ?_); rintro e w4 ⟨rfl, s4, k4⟩; have hg4 := hg3.kept k4; have s34 := s3.kept k4; have kk := k3.tr k4)
    | (go_at_call 44; (with_reducible refine (canon_p b G t _ (s.take (lowN s.length r)) _ hg4 s4 (by rw [List.length_take]; omega)).mono ?_); rintro e w5 ⟨v5, l5, rfl, o5, k5, c5, p5⟩; obtain ⟨a5, c5', rfl, h51, h52⟩ := o5.sh; have s5 := o5.sl; have hg5 := hg4.kept k5; have s35 := s34.kept k5; have kk := kk.tr k5))
  have e3 : t.pl (List.replicate r 0 ++ [1]) = Pl.x r := pl_power1 t r
  have n3 : (List.replicate r (0 : Int) ++ [1]).length ≤ 300 := by simp; omega
  have hln := low_ln t s r
  refine (euclid_p b G t v3 a5 c5' (List.replicate r 0 ++ [1]) l5 ((r : Int) + f) _ hg5 s35 s5 n3 c5 (by rw [e3, p5, Pl.ln_x]; omega) (by omega) (by rw [e3, Pl.ln_x]; omega)).mono ?_
  rintro e w6 ⟨vb, vt, lb, lt, rfl, sb, ot, k6, cb, ct, hE⟩
  rw [e3, p5] at hE
  have hE := hE.congr (low_cg t s r)
  have hne : lt ≠ [] := fun e => hE.tn ((t.pl_zero ct).2 e)
  have hhd := can_head t ct
  obtain ⟨gt, ctp, rfl, ht1, ht2, ht3, ht4⟩ := ot.sh' hne
  have hpos := List.length_pos_iff.2 hne
  have hcell := ot.cell (i := 0) hpos
  have kk := kk.tr k6
  have hg6 := hg5.kept k6
  have nt : lt.length ≤ 300 := by
    obtain ⟨a, o, -, -, q3, q4⟩ := hE.ex
    rw [Pl.ln_x] at q3
    rw [← t.can_ln ct]
    omega
  have nb : lb.length ≤ 300 := by
    have := hE.small
    rw [t.can_ln cb] at this
    omega
  have HE := hid hE
  have hat : (t.pl lt).a 0 = t.e (lt.getD 0 0) := t.pl_at lt 0
  obtain ⟨z, hz⟩ : ∃ z, z = lt.getD 0 0 := ⟨_, rfl⟩
  rw [← hz] at hcell hhd hat
  have HAT := hid hat.symm
  have tl : ((lt.length : Int) == 0) = false := beq0 hpos
  have tl2 : (0 : Int) < (lt.length : Int) := by omega
  have st := ot.sl
  clear hE hz hat hne o5 s5 c5 p5 s35 hg3 hg4 hg5 s34 s4 s3 o3
  by_cases hz0 : z = 0
  · subst hz0
    have HN : Hid (Pl.SolvN (t.pl s) r f) := hid ⟨_, _, HE.out, hhd.2 rfl⟩
    go_wp2_with (fail)
    go_ret3
    exact .inr ⟨rfl, kk, HN.out⟩
  · have tz : (z == 0) = false := by simpa using hz0
    have HH : Hid ((t.pl lt).a 0 ≠ 0) := hid (fun e => hz0 (hhd.1 e))
    have hez : Hid (t.e z = (t.pl lt).a 0) := HAT
    have hzi : Hid (inn G.q z ≠ 0) := hid (fun e => HH.out (by rw [← hez.out]; exact t.e_nz.2 e))
    clear hz0 hhd
    go_wp2_with (first
      | (go_at_call 48; (with_reducible refine (inv_ok b G z _ hg6 t hzi.out).mono ?_); rintro e w7 ⟨rfl, n7, rfl⟩; have hg7 := hg6.drewN n7; have st7 := st.kept (kept_drewN _ n7); have sb7 := sb.kept (kept_drewN _ n7); have kk := kk.drewN n7)
      | (go_at_call 49; (with_reducible refine (pscale_p b G t _ lt _ (invG G z) hg7 st7 (by omega)).mono ?_); rintro e w8 ⟨v8, l8, rfl, o8, k8, c8, p8⟩; have hg8 := hg7.kept k8; have sb8 := sb7.kept k8; have o8 := o8.mono (B' := w.heap.size) kk.size; have kk := kk.tr k8; have P8 := hid p8; clear p8)
      | (go_at_call 49; (with_reducible refine (pscale_p b G t _ lb _ (invG G z) hg8 sb8 (by omega)).mono ?_); rintro e w9 ⟨v9, l9, rfl, o9, k9, c9, p9⟩; have o9 := o9.mono (B' := w.heap.size) kk.size; have o8 := o8.kept k9; have kk := kk.tr k9; have P9 := hid p9; clear p9))
    go_ret3
    refine .inl ⟨_, _, l8, l9, rfl, o8, o9, kk, c8, c9, _, _, HE.out, HH.out, ?_, ?_⟩
    · rw [P8.out, t.e_invG hzi.out, hez.out]
    · rw [P9.out, t.e_invG hzi.out, hez.out]
end Go.Proofs.Ytmnbcnbhnclkhaa
namespace Go.Proofs.Ytmnbcnbhnclkhaa
open Go.RowKit Cw

/-- The value of Forney at a, with the error's number. -/
def FrP {G : GFd} (t : Tabs G) (L V : List Int) (a x k : Int) : Prop :=
  (inn G.q a = 0 ∧ x = 0 ∧ k = 7) ∨ (inn G.q a ≠ 0 ∧ Pl.ev (Pl.der (t.pl L)) (Cw.Fd.inv (t.e a)) = 0 ∧ x = 0 ∧ k = 7) ∨
  (inn G.q a ≠ 0 ∧ Pl.ev (Pl.der (t.pl L)) (Cw.Fd.inv (t.e a)) ≠ 0 ∧ k = 0 ∧ (0 ≤ x ∧ x < G.q) ∧ t.e x = -(t.e a * Pl.ev (t.pl V) (Cw.Fd.inv (t.e a))) * Cw.Fd.inv (Pl.ev (Pl.der (t.pl L)) (Cw.Fd.inv (t.e a))))
theorem FrP.eq {G : GFd} {t : Tabs G} {L V : List Int} {a x k x' k' : Int} (h : FrP t L V a x k) (h' : FrP t L V a x' k') : x = x' ∧ k = k' := by
  rcases h with ⟨h1, rfl, rfl⟩ | ⟨h1, h2, rfl, rfl⟩ | ⟨h1, h2, rfl, h3, h4⟩ <;> rcases h' with ⟨g1, rfl, rfl⟩ | ⟨g1, g2, rfl, rfl⟩ | ⟨g1, g2, rfl, g3, g4⟩
  all_goals first | exact ⟨rfl, rfl⟩ | exact absurd h1 g1 | exact absurd g1 h1 | exact absurd h2 g2 | exact absurd g2 h2 | exact ⟨t.e_eq h3 g3 (h4.trans g4.symm), rfl⟩
set_option maxRecDepth 100000 in
set_option maxHeartbeats 2000000 in
theorem kForney_p (b : Nat) (G : GFd) (t : Tabs G) (vL vV : Value) (L V : List Int) (a : Int) (w : World) (hg : IsGF w b G) (hL : Sl w vL L) (hV : Sl w vV V) (nL : L.length ≤ 1000) :
    Calls Try.prog 27 #[.pointer (some ⟨b, 0, none⟩), vL, vV, .int .i64 a] w fun e w' => ∃ x k, e = .returned (.tuple #[.int .i64 x, .int .i64 k]) ∧ FrP t L V a x k ∧ Kept w w' := by
  by_cases ha : inn G.q a = 0
  · have HA := hid ha
    clear ha
    go_enter Try.func27, Try.ntmps27
    go_wp2_with (go_at_call 48; (with_reducible refine (inv_zero b G a _ hg HA.out).mono ?_); rintro e w1 ⟨rfl, n1, rfl⟩)
    go_ret2
    exact ⟨_, _, rfl, .inl ⟨HA.out, rfl, rfl⟩, kept_drewN _ _⟩
  have HA := hid ha
  have hz : Hid (t.e (invG G a) = Cw.Fd.inv (t.e a)) := hid (t.e_invG ha)
  clear ha
  obtain ⟨y, hyb, hye⟩ := t.e_surj (Pl.ev (Pl.der (t.pl L)) (Cw.Fd.inv (t.e a)))
  have HYB := hid hyb
  have HYE := hid hye
  clear hyb hye
  by_cases h0 : y = 0
  all_goals
    have H0 := hid h0
    have hq : Hid (if y = 0 then inn G.q y = 0 else inn G.q y ≠ 0) := hid (by rw [inn_yes HYB.out]; split <;> assumption)
    have hq0 := hq.out
    first | rw [if_pos h0] at hq0 | rw [if_neg h0] at hq0
    have HQ := hid hq0
    clear h0 hq hq0
    go_enter Try.func27, Try.ntmps27
    go_wp2_with (first
      | (go_at_call 48; (with_reducible refine (inv_ok b G a _ hg t HA.out).mono ?_); rintro e w1 ⟨rfl, n1, rfl⟩; have kk := kept_drewN w n1; have hg1 := hg.kept kk)
      | (go_at_call 57; (with_reducible refine (eval_k b G t _ V (invG G a) _ hg1 (hV.kept kk)).mono ?_); rintro e w2 ⟨rfl, k2⟩; have kk2 := kk.tr k2; have hg2 := hg1.kept k2; clear kk)
      | (go_at_call 43; (with_reducible refine (mul_any b G a (evL G V (invG G a)) _ hg2 t).mono ?_); rintro e w3 ⟨rfl, n3, rfl⟩; have hg3 := hg2.drewN n3)
      | (go_at_call 56; (with_reducible refine (neg_any b G (mulG G a (evL G V (invG G a))) _ hg3 t).mono ?_); rintro e w4 ⟨rfl, n4, rfl⟩; have kk : Kept w (w2.drewN (n3 + n4)) := kk2.drewN _; have hg4 : IsGF (w2.drewN (n3 + n4)) b G := hg2.drewN _)
      | (go_at_call 58; go_loud ((with_reducible refine (derivative_p b G t _ L _ hg4 (hL.kept kk) (by omega)).mono ?_); rintro e w5 ⟨v5, l5, rfl, o5, k5, c5, p5⟩; have kk := kk.tr k5; have hg5 := hg4.kept k5; have s5 := o5.sl; have HE5 : Hid (evL G l5 (invG G a) = y) := hid (t.e_eq (t.evL_bd _ _) HYB.out (by rw [t.e_evL, p5, hz.out, HYE.out])); clear p5))
      | (go_at_call 57; (with_reducible refine (eval_k b G t _ l5 (invG G a) _ hg5 s5).mono ?_); rintro e w6 ⟨rfl, k6⟩; rw [HE5.out]; have kk := kk.tr k6; have hg6 := hg5.kept k6)
      | (go_at_call 55; (with_reducible refine (div_zero b G (negG G (mulG G a (evL G V (invG G a)))) y _ hg6 HQ.out).mono ?_); rintro e w7 ⟨rfl, n7, rfl⟩; have kk := kk.drewN n7)
      | (go_at_call 55; (with_reducible refine (div_ok b G (negG G (mulG G a (evL G V (invG G a)))) y _ hg6 t HQ.out).mono ?_); rintro e w7 ⟨rfl, n7, rfl⟩; have kk := kk.drewN n7))
    go_ret2
  · refine ⟨_, _, rfl, .inr (.inl ⟨HA.out, ?_, rfl, rfl⟩), kk⟩
    rw [← HYE.out, H0.out, t.e_zero]
  · refine ⟨_, _, rfl, .inr (.inr ⟨HA.out, ?_, rfl, t.mul_bd _ _, ?_⟩), kk⟩
    · rw [← HYE.out]; exact t.e_ne HYB.out H0.out
    · rw [t.e_mul, t.e_neg, t.e_mul, t.e_evL, hz.out, t.e_invG HQ.out, HYE.out]
/-- The indices below k of the places that are marked. -/
def chL (s : Nat → Bool) : Nat → List Int
  | 0 => []
  | k + 1 => if s k then chL s k ++ [(k : Int)] else chL s k
theorem chL_len (s : Nat → Bool) : ∀ k, (chL s k).length ≤ k
  | 0 => Nat.le_refl _
  | k + 1 => by
    have := chL_len s k
    unfold chL
    split
    · simp; omega
    · omega
/-- The locator is 0 at the inverse of point number i, which is not 0. -/
def chS (G : GFd) (L pts : List Int) (i : Nat) : Bool := decide (inn G.q (pts.getD i 0) ≠ 0) && decide (evL G L (invG G (pts.getD i 0)) = 0)
set_option maxRecDepth 100000 in
set_option maxHeartbeats 4000000 in
theorem kChien_p (b : Nat) (G : GFd) (t : Tabs G) (vL vp : Value) (L pts : List Int) (w : World) (hg : IsGF w b G) (hL : Sl w vL L) (hp : Sl w vp pts) (np : pts.length ≤ 100000) :
    Calls Try.prog 28 #[.pointer (some ⟨b, 0, none⟩), vL, vp] w fun e w' => ∃ v, e = .returned v ∧ Own w' w.heap.size v (chL (chS G L pts) pts.length) ∧ Kept w w' := by
  have HP := hid hp
  obtain ⟨ap, cp, rfl, hp1, hp2⟩ := sl_len hp
  unfold maxLen at hp2
  have hC0 : Hid (chL (chS G L pts) 0 = []) := hid rfl
  go_enter Try.func28, Try.ntmps28
  go_wp2_with (fail)
  go_loopw [7, 14] (fun vo vi wr => ∃ k : Nat, k ≤ pts.length ∧ vi = .int .i64 k ∧ Own wr w.heap.size vo (chL (chS G L pts) k) ∧ Kept w wr) (fun _ vi _ => pts.length - (intOf vi).toNat)
  case atStart => exact ⟨0, by omega, rfl, own_nil _ _, Kept.rfl' _⟩
  case round =>
    obtain ⟨k, hk, rfl, ho, hkw⟩ := hrel
    by_cases hlt : k < pts.length
    · obtain ⟨_, _, e2, _, _, hcc⟩ := HP.out.kept hkw
      cases e2
      obtain ⟨bb, off, e3, hbb, hcell⟩ := hcc (by intro e; rw [e] at hlt; simp at hlt)
      cases e3
      have hck := hcell k hlt
      obtain ⟨z, hz⟩ : ∃ z, z = pts.getD k 0 := ⟨_, rfl⟩
      rw [← hz] at hck
      have hs : chS G L pts k = (decide (inn G.q z ≠ 0) && decide (evL G L (invG G z) = 0)) := by rw [hz]; rfl
      have hgw := hg.kept hkw
      have hLw := hL.kept hkw
      have hki : (k : Int) < (pts.length : Int) := by omega
      have k0 : (0 : Int) ≤ (k : Int) := by omega
      have hlo := chL_len (chS G L pts) k
      clear hcell hcc hz
      by_cases h0 : inn G.q z = 0
      · have HS : Hid (chL (chS G L pts) (k + 1) = chL (chS G L pts) k) := hid (by rw [chL, if_neg (by rw [hs]; simp [h0])])
        have H0 := hid h0
        clear h0 hs
        go_wp2_with (go_at_call 48; (with_reducible refine (inv_zero b G z _ hgw H0.out).mono ?_); rintro e w1 ⟨rfl, n1, rfl⟩)
        go_roundw
        case rel => exact ⟨k + 1, by omega, by go_num, by rw [HS.out]; exact ho.drewN _, hkw.drewN _⟩
        case measure => simp [intOf]; omega
      obtain ⟨y, hy⟩ : ∃ y, y = evL G L (invG G z) := ⟨_, rfl⟩
      rw [← hy] at hs
      have HY : Hid (evL G L (invG G z) = y) := hid hy.symm
      by_cases hy0 : y = 0
      · have HS : Hid (chL (chS G L pts) (k + 1) = chL (chS G L pts) k ++ [(k : Int)]) := hid (by rw [chL, if_pos (by rw [hs]; simp [h0, hy0])])
        have H0 := hid h0
        subst hy0
        clear h0 hs hy
        go_wp2_with (first
          | (go_at_call 48; (with_reducible refine (inv_ok b G z _ hgw t H0.out).mono ?_); rintro e w1 ⟨rfl, n1, rfl⟩; have k1 := kept_drewN wr n1)
          | (go_at_call 57; (with_reducible refine (eval_k b G t _ L (invG G z) _ (hgw.kept k1) (hLw.kept k1)).mono ?_); rintro e w2 ⟨rfl, k2⟩; rw [HY.out]; have k1 := k1.tr k2; have o2 := (ho.kept k1).kept (kept_alloc w2 (.cells #[.int .i64 k] 3)))
          | (at_builtin; (refine wpList_append_one rfl (.tmp 34) (.tmp 36) rfl w.heap.size _ (chL (chS G L pts) k) rfl o2 ⟨w2.heap.size, 0, none⟩ k rfl (cell_new rfl) (by omega) (by have := hkw.size; have := k1.size; simp; omega) ?_); intro v3 w3 o3 gr3; have k3 : Kept w w3 := below_append ((hkw.tr k1).tr (kept_alloc _ _)) (by have := hkw.size; have := k1.size; simp; omega) o2 (Nat.le_refl _) gr3))
        go_roundw
        case rel => exact ⟨k + 1, by omega, by go_num, by rw [HS.out]; exact o3, k3⟩
        case measure => simp [intOf]; omega
      · have HS : Hid (chL (chS G L pts) (k + 1) = chL (chS G L pts) k) := hid (by rw [chL, if_neg (by rw [hs]; simp [hy0])])
        have H0 := hid h0
        have ty : (y == 0) = false := by simpa using hy0
        clear h0 hs hy
        go_wp2_with (first
          | (go_at_call 48; (with_reducible refine (inv_ok b G z _ hgw t H0.out).mono ?_); rintro e w1 ⟨rfl, n1, rfl⟩; have k1 := kept_drewN wr n1)
          | (go_at_call 57; (with_reducible refine (eval_k b G t _ L (invG G z) _ (hgw.kept k1) (hLw.kept k1)).mono ?_); rintro e w2 ⟨rfl, k2⟩; rw [HY.out]; have k1 := k1.tr k2))
        go_roundw
        case rel => exact ⟨k + 1, by omega, by go_num, by rw [HS.out]; exact ho.kept k1, hkw.tr k1⟩
        case measure => simp [intOf]; omega
    · obtain rfl : k = pts.length := by omega
      clear hlt
      go_wp2_with (fail)
      go_ret
      exact ⟨_, rfl, ho, hkw⟩
end Go.Proofs.Ytmnbcnbhnclkhaa
namespace Go.Proofs.Ytmnbcnbhnclkhaa
open Go.RowKit Cw

theorem kSyn_shape (b : Nat) (vp vq : Value) (pts vals : List Int) (r : Int) (w : World) (hp : Sl w vp pts) (hq : Sl w vq vals) (h : pts.length ≠ vals.length) :
    Calls Try.prog 16 #[.pointer (some ⟨b, 0, none⟩), vp, vq, .int .i64 r] w fun e w' => e = .returned (.tuple #[.slice none 0 0, .int .i64 3]) ∧ Kept w w' := by
  obtain ⟨ap, cp, rfl, hp1, hp2⟩ := sl_len hp
  obtain ⟨aq, cq, rfl, hq1, hq2⟩ := sl_len hq
  have t1 : ((pts.length : Int) != (vals.length : Int)) = true := by simp; omega
  clear h
  go_enter Try.func16, Try.ntmps16
  go_wp2_with (fail)
  go_ret2
  exact ⟨rfl, Kept.rfl' _⟩
theorem kSyn_range (b : Nat) (vp vq : Value) (pts vals : List Int) (r : Int) (w : World) (hp : Sl w vp pts) (hq : Sl w vq vals) (h : pts.length = vals.length) (hr : r < 0 ∨ 256 < r) :
    Calls Try.prog 16 #[.pointer (some ⟨b, 0, none⟩), vp, vq, .int .i64 r] w fun e w' => e = .returned (.tuple #[.slice none 0 0, .int .i64 6]) ∧ Kept w w' := by
  obtain ⟨ap, cp, rfl, hp1, hp2⟩ := sl_len hp
  obtain ⟨aq, cq, rfl, hq1, hq2⟩ := sl_len hq
  have t1 : ((pts.length : Int) != (vals.length : Int)) = false := by simp; omega
  have hc : r < 0 ∨ (0 ≤ r ∧ 256 < r) := by omega
  clear h hr
  rcases hc with g1 | ⟨g1, g2⟩
  all_goals
    go_enter Try.func16, Try.ntmps16
    go_wp2_with (fail)
    go_ret2
    exact ⟨rfl, Kept.rfl' _⟩
/-- The points and the values, as elements. -/
noncomputable def eF {G : GFd} (t : Tabs G) (l : List Int) (i : Nat) : Rs t.fs.mon := t.e (l.getD i 0)
/-- The polynomial of the power sums. -/
def SyP {G : GFd} (t : Tabs G) (pts vals : List Int) (r : Nat) (P : Pl (Rs t.fs.mon)) : Prop := ∀ i, P.a i = if i < r then Pl.synd (eF t pts) (eF t vals) pts.length i else 0
theorem SyP.eq {G : GFd} {t : Tabs G} {pts vals : List Int} {r : Nat} {P Q : Pl (Rs t.fs.mon)} (h : SyP t pts vals r P) (k : SyP t pts vals r Q) : P = Q := Pl.ext (PS.ext fun i => by
  have h1 := h i
  have h2 := k i
  exact h1.trans h2.symm)
/-- The sums over the first i points are in the places; of point number i, those below j. -/
def SyI {G : GFd} (t : Tabs G) (pts vals : List Int) (r i j : Nat) (us : List Int) : Prop :=
  us.length = r ∧ ∀ m, m < r → t.e (us.getD m 0) = Rg.sm i (fun k => eF t vals k * Rg.pw (eF t pts k) m) + if m < j then eF t vals i * Rg.pw (eF t pts i) m else 0
theorem syi_start {G : GFd} (t : Tabs G) (pts vals : List Int) (r : Nat) : SyI t pts vals r 0 0 (List.replicate r 0) := ⟨by simp, fun m hm => by
  rw [if_neg (by omega), Rg.add_zero, Rg.sm_zero]
  have : (List.replicate r (0 : Int)).getD m 0 = 0 := by simp [List.getD, hm]
  rw [this, t.e_zero]⟩
theorem SyI.step {G : GFd} {t : Tabs G} {pts vals us : List Int} {r i j : Nat} (h : SyI t pts vals r i j us) (hj : j < r) {p : Int} (hp : t.e p = eF t vals i * Rg.pw (eF t pts i) j) :
    SyI t pts vals r i (j + 1) (us.set j (addG G (us.getD j 0) p)) := ⟨by rw [List.length_set]; exact h.1, fun m hm => by
  by_cases e : m = j
  · subst e
    rw [ldset_eq _ (by rw [h.1]; exact hm), t.e_add, h.2 m hm, if_neg (by omega), Rg.add_zero, if_pos (by omega), hp]
  · rw [ldset_ne _ (fun x => e x.symm), h.2 m hm]
    by_cases h2 : m < j
    · rw [if_pos h2, if_pos (by omega)]
    · rw [if_neg h2, if_neg (by omega)]⟩
theorem SyI.next {G : GFd} {t : Tabs G} {pts vals us : List Int} {r i : Nat} (h : SyI t pts vals r i r us) : SyI t pts vals r (i + 1) 0 us := ⟨h.1, fun m hm => by
  rw [h.2 m hm, if_pos hm, if_neg (by omega), Rg.add_zero, Rg.sm_succ]⟩
theorem SyI.fin {G : GFd} {t : Tabs G} {pts vals us : List Int} {r : Nat} (h : SyI t pts vals r pts.length 0 us) {P : Pl (Rs t.fs.mon)} (hP : P = t.pl us) : SyP t pts vals r P := fun i => by
  rw [hP, t.pl_at]
  by_cases hi : i < r
  · rw [if_pos hi, h.2 i hi, if_neg (by omega), Rg.add_zero, Pl.synd_at]
  · rw [if_neg hi, ld_out (by rw [h.1]; omega), t.e_zero]
set_option maxRecDepth 100000 in
set_option maxHeartbeats 4000000 in
theorem kSyn_p (b : Nat) (G : GFd) (t : Tabs G) (vp vq : Value) (pts vals : List Int) (r : Nat) (w : World) (hg : IsGF w b G) (hp : Sl w vp pts) (hq : Sl w vq vals) (np : pts.length ≤ 100000) (h : pts.length = vals.length) (hr : r ≤ 256) :
    Calls Try.prog 16 #[.pointer (some ⟨b, 0, none⟩), vp, vq, .int .i64 r] w fun e w' => ∃ v l, e = .returned (.tuple #[v, .int .i64 0]) ∧ Own w' w.heap.size v l ∧ Kept w w' ∧ Cano G l ∧ SyP t pts vals r (t.pl l) := by
  have HP := hid hp
  have HV := hid hq
  obtain ⟨ap, cp, rfl, hp1, hp2⟩ := sl_len hp
  obtain ⟨aq, cq, rfl, hq1, hq2⟩ := sl_len hq
  unfold maxLen at hp2 hq2
  have t1 : ((pts.length : Int) != (vals.length : Int)) = false := by simp; omega
  have r0 : (0 : Int) ≤ (r : Int) := by omega
  have r1 : (r : Int) ≤ 256 := by omega
  have HLN := hid h
  have hS0 := hid (syi_start t pts vals r)
  clear h
  go_enter Try.func16, Try.ntmps16
  go_wp2_with (at_make; refine wpList_make_ints rfl _ _ rfl r _ _ rfl rfl rfl rfl (by omega) ?_; intro w1 ho hk)
  go_loopw [30] (fun vi wr => ∃ (i : Nat) (us : List Int), i ≤ pts.length ∧ vi = .int .i64 i ∧ Own wr w.heap.size (.slice (some ⟨w.heap.size, 0, none⟩) r r) us ∧ Kept w wr ∧ Hid (SyI t pts vals r i 0 us)) (fun vi _ => pts.length - (intOf vi).toNat)
  case atStart => exact ⟨0, _, by omega, rfl, ho, hk, hS0⟩
  case round =>
    obtain ⟨i, us, hi, rfl, hown, hkw, hS⟩ := hrel
    clear ho hk hS0
    by_cases hlt : i < pts.length
    · obtain ⟨_, _, e2, _, _, hcc⟩ := HP.out.kept hkw
      cases e2
      obtain ⟨bb, off, e3, hbb, hcell⟩ := hcc (by intro e; rw [e] at hlt; simp at hlt)
      cases e3
      have hck := hcell i hlt
      obtain ⟨_, _, e4, _, _, hcc2⟩ := HV.out.kept hkw
      cases e4
      have hlt2 : i < vals.length := by have := HLN.out; omega
      obtain ⟨bv, offv, e5, hbv, hcellv⟩ := hcc2 (by intro e; rw [e] at hlt2; simp at hlt2)
      cases e5
      have hcv := hcellv i hlt2
      obtain ⟨z, hz⟩ : ∃ z, z = pts.getD i 0 := ⟨_, rfl⟩
      obtain ⟨y, hy⟩ : ∃ y, y = vals.getD i 0 := ⟨_, rfl⟩
      rw [← hz] at hck
      rw [← hy] at hcv
      have HZ : Hid (eF t pts i = t.e z) := hid (by unfold eF; rw [hz])
      have HY : Hid (eF t vals i = t.e y) := hid (by unfold eF; rw [hy])
      have hgw := hg.kept hkw
      have hii : (i : Int) < (pts.length : Int) := by omega
      have hii2 : (i : Int) < (vals.length : Int) := by omega
      have i0 : (0 : Int) ≤ (i : Int) := by omega
      clear hcell hcc hcellv hcc2 hz hy
      go_wp2_with (go_at_call 42; (with_reducible refine (add_any b G y 0 _ hgw t).mono ?_); rintro e w2 ⟨rfl, n2, rfl⟩)
      have hP0 : Hid (t.e (addG G y 0) = eF t vals i * Rg.pw (eF t pts i) 0) := hid (by rw [t.e_add, t.e_zero, Rg.add_zero, Rg.pw_zero, Rg.mul_one, HY.out])
      have hown2 := hown.drewN n2
      have hkw2 := hkw.drewN n2
      obtain ⟨wL, hwL⟩ : ∃ x, x = wr.drewN n2 := ⟨_, rfl⟩
      rw [← hwL] at hown2 hkw2 ⊢
      clear hown hkw hgw hwL hck hcv
      go_loopw [13, 43] (fun vp vj wx => ∃ (j : Nat) (p : Int) (us : List Int), j ≤ r ∧ vj = .int .i64 j ∧ vp = .int .i64 p ∧ Own wx w.heap.size (.slice (some ⟨w.heap.size, 0, none⟩) r r) us ∧ Kept w wx ∧ Hid (SyI t pts vals r i j us) ∧ Hid (t.e p = eF t vals i * Rg.pw (eF t pts i) j)) (fun _ vj _ => r - (intOf vj).toNat)
      case atStart => exact ⟨0, _, us, by omega, rfl, rfl, hown2, hkw2, hS, hP0⟩
      case round =>
        obtain ⟨j, p, us, hj, rfl, rfl, hown, hkw, hS, hP⟩ := hrel
        clear hown2 hkw2 hP0
        have hgw := hg.kept hkw
        by_cases hjr : j < r
        · have hji : (j : Int) < (r : Int) := by omega
          have j0 : (0 : Int) ≤ (j : Int) := by omega
          have hcu := hown.cell (i := j) (by rw [hS.out.1]; exact hjr)
          have hfu := hown.frozen j
          have HS' := hid (hS.out.step hjr hP.out)
          have HP' : Hid (t.e (mulG G p z) = eF t vals i * Rg.pw (eF t pts i) (j + 1)) := hid (by rw [t.e_mul, hP.out, Rg.pw_succ, HZ.out, Rg.mul_assoc])
          obtain ⟨u, hu⟩ : ∃ u, u = us.getD j 0 := ⟨_, rfl⟩
          rw [← hu] at hcu HS'
          clear hu
          go_wp2_with (first
            | (go_at_call 42; (with_reducible refine (add_any b G u p _ hgw t).mono ?_); rintro e w3 ⟨rfl, n3, rfl⟩)
            | (go_at_call 43; go_loud ((with_reducible refine (mul_any b G p z _ (hg.kept (Below.setCell (hkw.drewN n3) (p := ⟨w.heap.size, j, none⟩) (Nat.le_refl _) (.int .i64 (addG G u p)))) t).mono ?_); rintro e w4 ⟨rfl, n4, rfl⟩)))
          have hset := ((hown.drewN n3).set j (addG G u p)).drewN n4
          have hbs := Kept.drewN (Below.setCell (hkw.drewN n3) (p := ⟨w.heap.size, j, none⟩) (Nat.le_refl _) (.int .i64 (addG G u p))) n4
          go_roundw
          case rel => exact ⟨j + 1, _, _, by omega, by go_num, rfl, hset, hbs, HS', HP'⟩
          case measure => simp [intOf]; omega
        · obtain rfl : j = r := by omega
          have HS' := hid hS.out.next
          clear hjr
          go_wp2_with (fail)
          go_roundw
          case rel => exact ⟨i + 1, us, by omega, by go_num, hown, hkw, HS'⟩
          case measure => simp [intOf]; omega
    · have ei : i = pts.length := by omega
      have hS' : Hid (SyI t pts vals r pts.length 0 us) := hid (by rw [← ei]; exact hS.out)
      have hul : us.length = r := hS.out.1
      have s1 := hown.sl
      clear hlt
      go_wp2_with (go_at_call 44; (with_reducible refine (canon_p b G t _ us _ (hg.kept hkw) s1 (by omega)).mono ?_); rintro e w5 ⟨v5, l5, rfl, o5, k5, c5, p5⟩; have P5 := hid p5; clear p5)
      go_ret2
      exact ⟨_, l5, rfl, o5.mono hkw.size, hkw.tr k5, c5, hS'.out.fin P5.out⟩
end Go.Proofs.Ytmnbcnbhnclkhaa
namespace Go.Proofs.Ytmnbcnbhnclkhaa
open Go.RowKit Cw

/-- Point number i has another value. -/
def dsS (G : GFd) (m xs ys : List Int) (i : Nat) : Bool := decide (evL G m (xs.getD i 0) ≠ inn G.q (ys.getD i 0))
theorem cnt_le (s : Nat → Bool) : ∀ k, Pl.cnt s k ≤ k
  | 0 => Nat.le_refl _
  | k + 1 => by
    have := cnt_le s k
    unfold Pl.cnt
    split <;> omega
set_option maxRecDepth 100000 in
set_option maxHeartbeats 4000000 in
theorem kGao_p (b : Nat) (G : GFd) (t : Tabs G) (vx vy : Value) (xs ys m : List Int) (k : Nat) (w : World) (hg : IsGF w b G) (hx : Sl w vx xs) (hy : Sl w vy ys) (hlen : ys.length = xs.length) (nx : xs.length ≤ 100) (hd : ∀ i j, i < j → j < xs.length → inn G.q (xs.getD i 0) ≠ inn G.q (xs.getD j 0)) (hk : k ≤ xs.length) (hm : (t.pl m).ln ≤ k) (hc : 2 * Pl.cnt (dsS G m xs ys) xs.length ≤ xs.length - k) :
    Calls Try.prog 39 #[.pointer (some ⟨b, 0, none⟩), vx, vy, .int .i64 k] w (OutE G t (t.pl m) w) := by
  have HX := hid hx
  have HY := hid hy
  obtain ⟨ax, cx, rfl, hx1, hx2⟩ := sl_len hx
  obtain ⟨ay, cy, rfl, hy1, hy2⟩ := sl_len hy
  unfold maxLen at hx2 hy2
  have hfd : Hid (∀ i j, i < j → j < xs.length → t.e (xs.getD i 0) ≠ t.e (xs.getD j 0)) := hid (fun i j h1 h2 e => hd i j h1 (by omega) (t.e_inj e))
  have HC : Hid (2 * Pl.cnt (dsS G m xs ys) xs.length ≤ xs.length - k) := hid hc
  have HLEN : Hid (ys.length = xs.length) := hid hlen
  have hD := hid hd
  have k0 : (0 : Int) ≤ (k : Int) := by omega
  have k1 : (k : Int) ≤ (xs.length : Int) := by omega
  have w1' : IntKind.i64.wrap ((xs.length : Int) + (k : Int)) = (xs.length : Int) + (k : Int) := IntWalk.i64_in _ (by omega)
  have w2' : IntKind.i64.wrap ((xs.length : Int) - (k : Int)) = (xs.length : Int) - (k : Int) := IntWalk.i64_in _ (by omega)
  clear hd hc hlen
  go_enter Try.func39, Try.ntmps39
  go_wp2_with (fail)
  with_reducible refine (interp_any b G t _ _ xs ys xs.length _ hg hx hy HLEN.out (by omega) (Nat.le_refl _) hD (hid (fun h => absurd h (Nat.lt_irrefl _)))).mono ?_
  rintro e w1 ⟨-, h1⟩
  obtain ⟨v1, l1, rfl, o1, kk1, c1, p1⟩ := h1 rfl
  have q1 := Pl.nwt_ln (fun i => t.e (xs.getD i 0)) (fun i => t.e (ys.getD i 0)) xs.length
  have q2 : Hid (∀ i, i < xs.length → Pl.ev (t.pl l1) (t.e (xs.getD i 0)) = t.e (ys.getD i 0)) := hid (by rw [p1]; exact Pl.nwt_ev (fun i => t.e (xs.getD i 0)) (fun i => t.e (ys.getD i 0)) xs.length hfd.out)
  obtain ⟨a1, cp1, rfl, o11, o12⟩ := o1.sh
  have s1 := o1.sl
  have hg1 := hg.kept kk1
  have hx1' := hx.kept kk1
  clear h1 o1
  go_wp2_with (go_at_call 69; (with_reducible refine (fromRoots_p b G t _ xs _ hg1 hx1' (by omega)).mono ?_); rintro e w2 ⟨v2, l2, rfl, o2, kk2, c2, p2⟩)
  have e2 : (t.pl l2).ln = xs.length + 1 := by rw [p2, Pl.ln_prf]
  with_reducible refine (euclid_p b G t v2 a1 cp1 l2 l1 ((xs.length : Int) + (k : Int)) _ (hg1.kept kk2) o2.sl (s1.kept kk2) (by rw [t.can_ln' c2 rfl, e2]; omega) c1 (by rw [e2, p1]; omega) (by omega) (by rw [e2]; omega)).mono ?_
  rintro e w3 ⟨vb, vt, lb, lt, rfl, sb, ot, kk3, cb, ct, hE⟩
  have hk03 := (kk1.tr kk2).tr kk3
  have hgao : t.pl lb = t.pl m * t.pl lt := by
    refine Pl.gao (f := fun i => t.e (xs.getD i 0)) (n := xs.length) (k := k) (s := dsS G m xs ys) hfd.out (by rw [p2] at hE; exact hE) hk hm (fun i hi hs => ?_) HC.out
    rw [q2.out i hi, ← t.e_evL]
    have : evL G m (xs.getD i 0) = inn G.q (ys.getD i 0) := by simpa [dsS] using hs
    rw [this, t.e_inn]
  have htz := hE.tn
  obtain ⟨d1, d2⟩ := Pl.div_of (a := t.pl lb) (b := t.pl lt) (q := t.pl m) (r := 0) (by rw [Rg.add_zero]; exact hgao) (by rw [Pl.ln_zero]; exact Pl.ln_pos htz)
  have nt : lt.length ≤ 200 := by
    obtain ⟨a, o, -, -, q3, q4⟩ := hE.ex
    rw [e2] at q3
    rw [← t.can_ln ct]
    omega
  have nb : lb.length ≤ 200 := by
    have := hE.small
    rw [t.can_ln cb] at this
    omega
  have HTZ := hid htz
  have D1 := hid d1
  have D2 := hid d2
  have st := ot.sl
  have hg3 := hg.kept hk03
  clear hgao htz d1 d2 hE p2 e2 p1 q1 c1 c2 o2 s1 hx1' hg1 kk1 kk2 kk3
  go_wp2_with (fail)
  with_reducible refine (divmod_p b G t _ _ lb lt _ hg3 sb st (by omega) (by omega) HTZ.out).mono ?_
  rintro e w4 ⟨vu, vr, lu, lr, rfl, ou, orr, k4, cu, cr, pu, pr⟩
  obtain rfl : lr = [] := (t.pl_zero cr).1 (by rw [pr, D2.out])
  have PU : Hid (t.pl lu = t.pl m) := hid (by rw [pu, D1.out])
  obtain ⟨au, cu', rfl, hu1, hu2⟩ := ou.sh
  obtain ⟨ar, cr', rfl, hr1, hr2⟩ := orr.sh
  have hk04 := hk03.tr k4
  have nu : (lu.length : Int) ≤ (k : Int) := by have := t.can_ln' cu PU.out; omega
  have ou := ou.mono hk03.size
  have su := ou.sl
  have hg4 := hg3.kept k4
  clear pu pr orr cr hg3 st sb ot hk03 k4
  go_wp2_with (fail)
  go_loopw [17, 74] (fun vw vi wr => ∃ i : Nat, i ≤ xs.length ∧ vi = .int .i64 i ∧ vw = .int .i64 (Pl.cnt (dsS G m xs ys) i : Nat) ∧ Kept w4 wr) (fun _ vi _ => xs.length - (intOf vi).toNat)
  case atStart => exact ⟨0, by omega, rfl, rfl, Kept.rfl' _⟩
  case round =>
    obtain ⟨i, hi, rfl, rfl, hkw⟩ := hrel
    by_cases hlt : i < xs.length
    · have hlt1 := hlt
      have hlt2 : i < ys.length := by have := HLEN.out; omega
      obtain ⟨_, _, e2, _, _, hcc⟩ := HX.out.kept (hk04.tr hkw)
      cases e2
      obtain ⟨bb, off, e3, hbb, hcell⟩ := hcc (by intro e; rw [e] at hlt1; simp at hlt1)
      cases e3
      have hck := hcell i hlt1
      obtain ⟨_, _, e4, _, _, hcc2⟩ := HY.out.kept (hk04.tr hkw)
      cases e4
      obtain ⟨bv, offv, e5, hbv, hcellv⟩ := hcc2 (by intro e; rw [e] at hlt2; simp at hlt2)
      cases e5
      have hcv := hcellv i hlt2
      have hs : dsS G m xs ys i = decide (evL G m (xs.getD i 0) ≠ inn G.q (ys.getD i 0)) := rfl
      obtain ⟨z, hz⟩ : ∃ z, z = xs.getD i 0 := ⟨_, rfl⟩
      obtain ⟨y, hy⟩ : ∃ y, y = ys.getD i 0 := ⟨_, rfl⟩
      rw [← hz] at hck hs
      rw [← hy] at hcv hs
      obtain ⟨p, hp⟩ : ∃ p, p = evL G m z := ⟨_, rfl⟩
      obtain ⟨u, hu⟩ : ∃ u, u = inn G.q y := ⟨_, rfl⟩
      have HPP : Hid (evL G lu z = p) := hid (by rw [hp]; exact t.evL_congr z PU.out)
      have HUU : Hid (addG G y 0 = u) := hid (by
        rw [hu]
        refine t.e_eq (t.add_bd _ _) (inn_bd (by have := t.qb; omega) _) ?_
        rw [t.e_add, t.e_zero, Rg.add_zero, t.e_inn])
      rw [← hp, ← hu] at hs
      have hgw := hg4.kept hkw
      have suw := su.kept hkw
      have hii : (i : Int) < (xs.length : Int) := by omega
      have i0 : (0 : Int) ≤ (i : Int) := by omega
      have hcn := cnt_le (dsS G m xs ys) i
      have hst : Pl.cnt (dsS G m xs ys) (i + 1) = Pl.cnt (dsS G m xs ys) i + if dsS G m xs ys i then 1 else 0 := rfl
      obtain ⟨q, hq⟩ : ∃ q, q = Pl.cnt (dsS G m xs ys) i := ⟨_, rfl⟩
      rw [← hq] at hst hcn ⊢
      clear hcell hcc hcellv hcc2 hz hy hp hu
      have EV : Hid (∀ W, IsGF W b G → Sl W (.slice au lu.length cu') lu → Calls Try.prog 57 #[.pointer (some ⟨b, 0, none⟩), .slice au lu.length cu', .int .i64 z] W fun e w' => e = .returned (.int .i64 p) ∧ ∃ m, w' = W.drewN m) := hid (fun W h1 h2 => by
        have := eval_p b G t _ lu z W h1 h2
        rw [HPP.out] at this
        exact this)
      have AD : Hid (∀ W, IsGF W b G → Calls Try.prog 42 #[.pointer (some ⟨b, 0, none⟩), .int .i64 y, .int .i64 0] W fun e w' => e = .returned (.int .i64 u) ∧ ∃ m, w' = W.drewN m) := hid (fun W h1 => by
        have := add_any b G y 0 W h1 t
        rw [HUU.out] at this
        exact this)
      by_cases hpu : p = u
      · subst hpu
        have HS : Hid (Pl.cnt (dsS G m xs ys) (i + 1) = q) := hid (by rw [hst, hs]; simp)
        clear hst hs hq
        go_wp2_with (fail)
        go_quiet (first | (go_at_call 57; refine Calls.quiet_of (EV.out _ (by first | exact hgw | exact hgw.drewN _ | exact hgw.drew) (by first | exact suw | exact suw.kept (kept_drewN _ _) | exact suw.kept (kept_drew _)))) | (go_at_call 42; refine Calls.quiet_of (AD.out _ (by first | exact hgw | exact hgw.drewN _ | exact hgw.drew))))
        go_wp2_with (fail)
        go_roundw
        case rel => exact ⟨i + 1, by omega, by go_num, by rw [HS.out], hkw.drewN _⟩
        case measure => simp [intOf]; omega
      · have HS : Hid (Pl.cnt (dsS G m xs ys) (i + 1) = q + 1) := hid (by rw [hst, hs]; simp [hpu])
        have tpu : (p != u) = true := by simpa using hpu
        have tpu2 : (p == u) = false := by simpa using hpu
        clear hst hs hq
        go_wp2_with (fail)
        go_quiet (first | (go_at_call 57; refine Calls.quiet_of (EV.out _ (by first | exact hgw | exact hgw.drewN _ | exact hgw.drew) (by first | exact suw | exact suw.kept (kept_drewN _ _) | exact suw.kept (kept_drew _)))) | (go_at_call 42; refine Calls.quiet_of (AD.out _ (by first | exact hgw | exact hgw.drewN _ | exact hgw.drew))))
        go_wp2_with (fail)
        go_roundw
        case rel => exact ⟨i + 1, by omega, by go_num, by rw [HS.out]; exact val_int (by omega), hkw.drewN _⟩
        case measure => simp [intOf]; omega
    · have ei : i = xs.length := by omega
      have hq2 : 2 * Pl.cnt (dsS G m xs ys) i ≤ xs.length - k := by rw [ei]; exact HC.out
      obtain ⟨q, hq⟩ : ∃ q, q = Pl.cnt (dsS G m xs ys) i := ⟨_, rfl⟩
      rw [← hq] at hq2 ⊢
      have hq3 : (q : Int) ≤ ((xs.length : Int) - (k : Int)).tdiv 2 := by rw [Int.tdiv_eq_ediv_of_nonneg (by omega)]; omega
      have hge : (xs.length : Int) ≤ (i : Int) := by omega
      clear hq ei hlt
      go_wp2_with (fail)
      go_ret2
      exact ⟨_, lu, rfl, ou.kept hkw, hk04.tr hkw, cu, PU.out⟩
end Go.Proofs.Ytmnbcnbhnclkhaa
