/- A description is a field's exactly where its polynomial is irreducible: plain algebra, no program in sight. No conditions. -/
import Derived.Test.YtnmidgcmlkofjaaMf
namespace Cw
open Rg Fd PS

/-- The powers, one after the other. -/
def itF (f : Int → Int) : Nat → Int
  | 0 => 1
  | n + 1 => f (itF f n)
theorem powsF_shape (f : Int → Int) : ∀ n k, ∃ j, k ≤ j ∧ j ≤ k + n ∧ powsF f n ((List.range (k + 1)).map (itF f)) (itF f (k + 1)) = (List.range (j + 1)).map (itF f) ∧
    (j = k + n ∨ itF f (j + 1) = 0 ∨ itF f (j + 1) ∈ (List.range (j + 1)).map (itF f))
  | 0, k => ⟨k, Nat.le_refl _, Nat.le_refl _, rfl, .inl rfl⟩
  | n + 1, k => by
    rw [powsF]
    split
    · rename_i h
      exact ⟨k, Nat.le_refl _, by omega, rfl, .inr h⟩
    · obtain ⟨j, h1, h2, h3, h4⟩ := powsF_shape f n (k + 1)
      refine ⟨j, by omega, by omega, ?_, ?_⟩
      · have e : (List.range (k + 1)).map (itF f) ++ [itF f (k + 1)] = (List.range (k + 1 + 1)).map (itF f) := by
          rw [List.range_succ (n := k + 1), List.map_append]; rfl
        rw [e]
        exact h3
      · rcases h4 with h | h
        · exact .inl (by omega)
        · exact .inr h

namespace FS
theorem q_pos (S : FS) : 0 < S.P ^ S.m := Int.pow_pos S.pos
theorem q_two (S : FS) : 2 ≤ S.P ^ S.m := by
  have h := pow_le (p := S.P) (by have := S.pr.1; omega) S.hm
  have := S.pr.1
  rw [Int.pow_one] at h
  omega
theorem mul_bd (S : FS) (x y : Int) : 0 ≤ mulS S.P S.m S.mod x y ∧ mulS S.P S.m S.mod x y < S.P ^ S.m := mulS_bd S.pos S.m S.mod x y
/-- The powers of x, as numbers. -/
def it (S : FS) (x : Int) (i : Nat) : Int := itF (fun y => mulS S.P S.m S.mod y x) i
theorem it_bd (S : FS) (x : Int) (i : Nat) : 0 ≤ S.it x i ∧ S.it x i < S.P ^ S.m := by
  cases i with
  | zero => have := S.q_two; exact ⟨by show (0 : Int) ≤ 1; omega, by show 1 < S.P ^ S.m; omega⟩
  | succ i => exact S.mul_bd _ _
theorem el_it (S : FS) (x : Int) (i : Nat) : S.el (S.it x i) = pw (S.el x) i := by
  induction i with
  | zero => exact S.el_one
  | succ i ih =>
    rw [pw_succ, ← ih]
    exact S.el_mul _ _
theorem it_one (S : FS) {x : Int} (h : 0 ≤ x ∧ x < S.P ^ S.m) : S.it x 1 = x := S.el_inj (S.it_bd x 1) h (by rw [el_it, pw_one])
theorem el_ne (S : FS) {x : Int} (h : 0 ≤ x ∧ x < S.P ^ S.m) : S.el x = 0 ↔ x = 0 := ⟨fun e => S.el_inj h ⟨by omega, by have := S.q_two; omega⟩ (by rw [e, S.el_zero]), fun e => by rw [e, S.el_zero]⟩
theorem powL_it (S : FS) {x : Int} (h : 0 ≤ x ∧ x < S.P ^ S.m) : ∃ j, j ≤ (S.P ^ S.m).toNat ∧ powL S.P S.m S.mod x = (List.range (j + 1)).map (S.it x) ∧
    (j = (S.P ^ S.m).toNat ∨ S.it x (j + 1) = 0 ∨ S.it x (j + 1) ∈ (List.range (j + 1)).map (S.it x)) := by
  obtain ⟨j, h1, h2, h3, h4⟩ := powsF_shape (fun y => mulS S.P S.m S.mod y x) (S.P ^ S.m).toNat 0
  have e : itF (fun y => mulS S.P S.m S.mod y x) (0 + 1) = x := S.it_one h
  rw [e] at h3
  refine ⟨j, by omega, h3, ?_⟩
  rw [Nat.zero_add] at h4
  exact h4

/-- A generator's powers are all elements but 0. -/
theorem gen_all (S : FS) {x : Int} (h : 0 ≤ x ∧ x < S.P ^ S.m) (hg : IsGen S.P S.m S.mod (S.P ^ S.m).toNat x) :
    pw (S.el x) ((S.P ^ S.m).toNat - 1) = 1 ∧ ∀ r : Rs S.mon, r ≠ 0 → ∃ i, i < (S.P ^ S.m).toNat - 1 ∧ r = pw (S.el x) i := by
  have hq := S.q_two
  obtain ⟨j, j1, j2, _⟩ := S.powL_it h
  obtain ⟨g1, g2⟩ := hg
  have hj : j + 1 = (S.P ^ S.m).toNat - 1 := by rw [j2] at g1; simpa using g1
  have hlast : (powL S.P S.m S.mod x).getD ((S.P ^ S.m).toNat - 2) 0 = S.it x j := by
    rw [j2, List.getD_eq_getElem?_getD, List.getElem?_map, List.getElem?_range (by omega), show (S.P ^ S.m).toNat - 2 = j by omega]
    rfl
  rw [hlast] at g2
  have e1 : S.it x (j + 1) = 1 := g2
  refine ⟨?_, fun r hr => ?_⟩
  · rw [← hj, ← el_it, e1, S.el_one]
  · obtain ⟨z, hz, rfl⟩ := S.el_surj r
    have hz0 : z ≠ 0 := fun e => hr (by rw [e, S.el_zero])
    have hmem : z ∈ powL S.P S.m S.mod x := by
      refine Classical.byContradiction fun hn => ?_
      have hnd : (z :: powL S.P S.m S.mod x).Nodup := List.nodup_cons.2 ⟨hn, powL_nodup _ _ _ _⟩
      have hb := powL_bd (by have := S.pr.1; omega) S.hm S.mod h.1 h.2
      have hz2 := powL_nz S.P S.m S.mod x
      have := nodup_le ((S.P ^ S.m).toNat - 1) (z :: powL S.P S.m S.mod x) 1 hnd fun y hy => by
        rcases List.mem_cons.1 hy with e | e
        · subst e; omega
        · have a1 := hb y e
          have a2 := hz2 y e
          omega
      rw [List.length_cons, g1] at this
      omega
    rw [j2] at hmem
    obtain ⟨i, hi, e⟩ := List.mem_map.1 hmem
    exact ⟨i, by have := List.mem_range.1 hi; omega, by rw [← e, el_it]⟩
/-- Where there is a generator, the polynomial is irreducible. -/
theorem gen_irr (S : FS) {x : Int} (h : 0 ≤ x ∧ x < S.P ^ S.m) (hg : IsGen S.P S.m S.mod (S.P ^ S.m).toNat x) : Rs.Irr S.mon := by
  intro g d h1 h2 h3 h4 h5
  obtain ⟨a, b, ha, hb, hab⟩ := Rs.zero_div h1 h2 h3 h4 h5
  obtain ⟨e1, e2⟩ := S.gen_all h hg
  obtain ⟨i, hi, rfl⟩ := e2 a ha
  obtain ⟨j, hj, rfl⟩ := e2 b hb
  rw [← pw_add] at hab
  have : pw (S.el x) (i + j + (((S.P ^ S.m).toNat - 1) * 2 - (i + j))) = 0 := by rw [pw_add, hab, zero_mul]
  rw [show i + j + (((S.P ^ S.m).toNat - 1) * 2 - (i + j)) = ((S.P ^ S.m).toNat - 1) * 2 by omega, pw_mul, e1, one_pw] at this
  exact Rs.one_ne' this
def imon (S : FS) (hi : Rs.Irr S.mon) : IMon (Zp S.R) := ⟨S.mon, hi⟩
/-- Where the polynomial is irreducible, there is a generator. -/
theorem irr_gen (S : FS) (hi : Rs.Irr S.mon) : ∃ x, 1 ≤ x ∧ x < S.P ^ S.m ∧ IsGen S.P S.m S.mod (S.P ^ S.m).toNat x := by
  have hq := S.q_two
  obtain ⟨l, l1, l2⟩ := S.els
  obtain ⟨g, g0, g1⟩ : ∃ g : Rs S.mon, g ≠ 0 ∧ Ord g (l.length - 1) := by
    obtain ⟨g, g0, g1⟩ := cyclic (α := Rs (S.imon hi).F) l1
    exact ⟨g, g0, g1⟩
  obtain ⟨x, hx, hxg⟩ := S.el_surj g
  have hx0 : x ≠ 0 := fun e => g0 (by rw [← hxg, e, S.el_zero])
  rw [l2] at g1
  have hw : ∀ i, S.el (S.it x i) = pw g i := fun i => by rw [el_it, hxg]
  have hne : ∀ i, pw g i ≠ 0 := fun i => pw_ne (α := Rs (S.imon hi).F) g0 i
  obtain ⟨j, j1, j2, j3⟩ := S.powL_it hx
  have hnd := powL_nodup S.P S.m S.mod x
  have hle : (powL S.P S.m S.mod x).length ≤ (S.P ^ S.m).toNat - 1 := by
    have hb := powL_bd (by have := S.pr.1; omega) S.hm S.mod hx.1 hx.2
    have hz2 := powL_nz S.P S.m S.mod x
    exact nodup_le ((S.P ^ S.m).toNat - 1) _ 1 hnd fun y hy => by
      have a1 := hb y hy
      have a2 := hz2 y hy
      omega
  have hlen : (powL S.P S.m S.mod x).length = j + 1 := by rw [j2]; simp
  have hj : j + 1 = (S.P ^ S.m).toNat - 1 := by
    rcases j3 with e | e | e
    · omega
    · have := hw (j + 1)
      rw [e, S.el_zero] at this
      exact absurd this.symm (hne _)
    · obtain ⟨i, hir, e2⟩ := List.mem_map.1 e
      have hi' := List.mem_range.1 hir
      have e3 : pw g i = pw g (j + 1) := by rw [← hw, ← hw, e2]
      rcases Nat.lt_or_ge (j + 1) ((S.P ^ S.m).toNat - 1) with h | h
      · have := pw_inj (α := Rs (S.imon hi).F) g0 g1 (i := i) (j := j + 1) (by omega) h e3
        omega
      · omega
  refine ⟨x, by omega, hx.2, by rw [hlen, hj], ?_⟩
  have hlast : (powL S.P S.m S.mod x).getD ((S.P ^ S.m).toNat - 2) 0 = S.it x j := by
    rw [j2, List.getD_eq_getElem?_getD, List.getElem?_map, List.getElem?_range (by omega), show (S.P ^ S.m).toNat - 2 = j by omega]
    rfl
  rw [hlast]
  refine S.el_inj (S.mul_bd _ _) ⟨by omega, by omega⟩ ?_
  rw [S.el_mul, hw, hxg, ← pw_succ, S.el_one, hj]
  exact g1.2.1

/-! ### Divisors, as the reference finds them. -/
/-- A monic polynomial by its low coefficients. -/
def mo (S : FS) (low : List Int) : PS (Zp S.R) := S.pol low + X low.length
theorem mo_dl (S : FS) (low : List Int) : dl (S.mo low) (low.length + 1) := dl_add (dl_mono (S.pol_dl (Nat.le_refl _)) (by omega)) (dl_X _)
theorem mo_top (S : FS) (low : List Int) : S.mo low low.length = 1 := by
  have := S.pol_dl (l := low) (Nat.le_refl _) low.length (Nat.le_refl _)
  unfold mo
  rw [add_at, this, zero_add, X_at, if_pos rfl]
theorem pol_row (S : FS) {low r : List Int} {i : Nat} (hi : i < r.length) (hd : low.length ≤ i) :
    S.pol (divRow S.P low i r) = S.pol r - C (Zp.mk' S.R (r.getD i 0)) * (X (i - low.length) * S.mo low) := PS.ext fun k => by
  rw [sub_at, C_mul_at, X_mul_at, pol_at]
  by_cases hk : k < r.length
  · rw [divRow_at hk]
    by_cases e : k = i
    · rw [if_pos e, e, if_neg (by omega), show i - (i - low.length) = low.length by omega, mo_top, mul_one, pol_at, sub_self]; rfl
    · rw [if_neg e]
      by_cases h1 : i - low.length ≤ k ∧ k < i
      · rw [if_pos h1, if_neg (by omega), mk_mod, ← Zp.mk_add, ← Zp.mk_mul, ← Zp.mk_sub]
        have e0 : Zp.mk' S.R S.P = 0 := Zp.mk_p (R := S.R)
        rw [e0, zero_sub, neg_mul, ← sub_def]
        unfold mo
        rw [add_at, X_at, if_neg (by omega), add_zero]
        rfl
      · rw [if_neg h1]
        by_cases h2 : k < i - low.length
        · rw [if_pos h2, mul_zero, sub_zero]; rfl
        · rw [if_neg h2, S.mo_dl low _ (by omega), mul_zero, sub_zero]; rfl
  · have z : ∀ l : List Int, l.length = r.length → Zp.mk' S.R (l.getD k 0) = 0 := fun l hl => by
      rw [List.getD_eq_getElem?_getD, List.getElem?_eq_none (by omega)]; rfl
    have zr : S.pol r k = 0 := z _ rfl
    rw [z _ (length_divRow _ _ _ _), zr, zero_sub]
    by_cases h2 : k < i - low.length
    · omega
    · rw [if_neg h2, S.mo_dl low _ (by omega), mul_zero, neg_zero]
theorem pol_divF (S : FS) {low r : List Int} : ∀ n, n ≤ r.length - low.length → (∃ q k, dl q k ∧ S.pol r = q * S.mo low + S.pol (divF S.P low r n)) ∧ ∀ i, r.length - n ≤ i → (divF S.P low r n).getD i 0 = 0
  | 0, _ => ⟨⟨0, 0, dl_zero _, by rw [zero_mul, zero_add]; rfl⟩, fun i hi => by rw [divF, List.getD_eq_getElem?_getD, List.getElem?_eq_none (by omega)]; rfl⟩
  | n + 1, h => by
    obtain ⟨⟨q, k, hq, e⟩, hz⟩ := pol_divF S (low := low) (r := r) n (by omega)
    have hl := length_divF S.P low r n
    have hrow := S.pol_row (low := low) (r := divF S.P low r n) (i := r.length - 1 - n) (by omega) (by omega)
    refine ⟨⟨q + C (Zp.mk' S.R ((divF S.P low r n).getD (r.length - 1 - n) 0)) * X (r.length - 1 - n - low.length), k + (r.length - 1 - n - low.length + 1),
      dl_add (dl_mono hq (by omega)) (dl_Cmul _ (dl_mono (dl_X _) (by omega))), ?_⟩, fun i hi => ?_⟩
    · rw [divF, hrow, e, add_mul]
      generalize S.pol (divF S.P low r n) = y
      generalize C (Zp.mk' S.R ((divF S.P low r n).getD (r.length - 1 - n) 0)) = c
      rw [sub_def, mul_assoc c]
      generalize c * (X (r.length - 1 - n - low.length) * S.mo low) = z
      have : q * S.mo low + z + (y + -z) = q * S.mo low + y + (z + -z) := by ac_rfl
      rw [this, add_neg, add_zero]
    · by_cases hi2 : i < r.length
      · rw [divF, divRow_at (by omega)]
        by_cases e1 : i = r.length - 1 - n
        · rw [if_pos e1]
        · rw [if_neg e1, if_neg (by omega)]
          exact hz i (by omega)
      · rw [List.getD_eq_getElem?_getD, List.getElem?_eq_none (by rw [length_divF]; omega)]; rfl
theorem divP_iff (S : FS) {low mod : List Int} (hd : Digs S.P mod) (hl : low.length ≤ mod.length) : DivP S.P low mod ↔ Dv (S.mo low) (S.mo mod) := by
  have er : S.pol (mod ++ [1]) = S.mo mod := PS.ext fun i => by
    unfold mo
    rw [add_at, X_at, pol_at, pol_at]
    rcases Nat.lt_trichotomy i mod.length with h | h | h
    · rw [if_neg (by omega), add_zero]; simp [List.getD, List.getElem?_append_left h]
    · subst h; rw [if_pos rfl]; simp [List.getD, Zp.mk_zero, Zp.mk_one, zero_add]
    · rw [if_neg (by omega), add_zero]
      rw [List.getD_eq_getElem?_getD, List.getD_eq_getElem?_getD, List.getElem?_eq_none (by simp; omega), List.getElem?_eq_none (by omega)]
  have hdr : Digs S.P (mod ++ [1]) := fun x hx => by
    have := S.pr.1
    rcases List.mem_append.1 hx with h | h
    · exact hd x h
    · rw [List.mem_singleton.1 h]; omega
  have hlen : (mod ++ [1]).length = mod.length + 1 := by simp
  obtain ⟨⟨q, k, hq, e⟩, hz⟩ := S.pol_divF (low := low) (r := mod ++ [1]) (mod.length + 1 - low.length) (by rw [hlen]; exact Nat.le_refl _)
  rw [er] at e
  have hdg := digs_divF S.pos (low := low) hdr (mod.length + 1 - low.length)
  unfold DivP
  constructor
  · intro h
    refine ⟨q, k, hq, ?_⟩
    have : S.pol (divF S.P low (mod ++ [1]) (mod.length + 1 - low.length)) = 0 := PS.ext fun i => by
      rw [pol_at]
      have h0 : (divF S.P low (mod ++ [1]) (mod.length + 1 - low.length)).getD i 0 = 0 := by
        by_cases hi : i < (divF S.P low (mod ++ [1]) (mod.length + 1 - low.length)).length
        · simp only [List.getD_eq_getElem?_getD, List.getElem?_eq_getElem hi, Option.getD_some]
          exact h _ (List.getElem_mem _)
        · rw [List.getD_eq_getElem?_getD, List.getElem?_eq_none (by omega)]; rfl
      rw [h0]; rfl
    rw [e, this, add_zero]
  · rintro ⟨q', k', hq', e'⟩ x hx
    obtain ⟨i, hi, rfl⟩ := List.getElem_of_mem hx
    have hrd : dl (S.pol (divF S.P low (mod ++ [1]) (mod.length + 1 - low.length))) low.length := fun j hj => by
      rw [pol_at, hz j (by rw [hlen]; omega)]; rfl
    have hu := div_unique (S.mo_dl low) (by rw [mo_top]; exact one_ne) hq hq' hrd (dl_zero _) (by rw [← e, add_zero]; exact e')
    have := congrArg (fun p : PS (Zp S.R) => (p i).v) hu.2
    simp only [pol_at, zero_at] at this
    have hb := digs_at S.pos hdg i
    rw [mk_dig S hb.1 hb.2] at this
    simp only [List.getD_eq_getElem?_getD, List.getElem?_eq_getElem hi, Option.getD_some] at this
    rw [this]
    exact Zp.zero_v
theorem mon_mo (S : FS) (h1 : 1 < S.m) (hl : S.mod.length = S.m) : S.mon.f = S.mo S.mod := PS.ext fun i => by
  unfold mo
  rw [mon_at, add_at, X_at, pol_at, hl]
  by_cases h : i = S.m
  · rw [if_pos h, if_pos h, List.getD_eq_getElem?_getD, List.getElem?_eq_none (by omega)]
    show 1 = Zp.mk' S.R 0 + 1
    rw [Zp.mk_zero, zero_add]
  · rw [if_neg h, if_neg h, add_zero]
    by_cases h2 : i < S.m
    · rw [if_pos h2]; unfold low; rw [if_pos h1]
    · rw [if_neg h2, List.getD_eq_getElem?_getD, List.getElem?_eq_none (by omega)]; rfl
/-- A monic polynomial by a number. -/
theorem mo_ex (S : FS) {g : PS (Zp S.R)} {d : Nat} (h1 : dl g (d + 1)) (h2 : g d = 1) : ∃ v : Nat, (v : Int) < S.P ^ d ∧ g = S.mo (digL S.P v d) := by
  obtain ⟨l, hl⟩ : ∃ l, l = (List.range d).map fun i => (g i).v := ⟨_, rfl⟩
  have hd : Digs S.P l := fun x hx => by
    rw [hl] at hx
    obtain ⟨i, _, rfl⟩ := List.mem_map.1 hx
    exact ⟨(g i).lo, (g i).hi⟩
  have hlen : l.length = d := by rw [hl]; simp
  have hb := valL_bd S.pos hd
  rw [hlen] at hb
  obtain ⟨v, hv⟩ := Int.eq_ofNat_of_zero_le hb.1
  refine ⟨v, by rw [← hv]; exact hb.2, ?_⟩
  have e : digL S.P v d = l := by
    have e1 := digL_valL S.pos hd
    rw [hlen, hv] at e1
    exact e1
  rw [e]
  refine PS.ext fun i => ?_
  unfold mo
  rw [add_at, X_at, pol_at, hlen]
  rcases Nat.lt_trichotomy i d with h | h | h
  · rw [if_neg (by omega), add_zero, hl]
    simp only [List.getD_eq_getElem?_getD, List.getElem?_map, List.getElem?_range h, Option.map_some, Option.getD_some]
    exact (Zp.mk_of _).symm
  · rw [if_pos h, h, h2, List.getD_eq_getElem?_getD, List.getElem?_eq_none (by omega)]
    show 1 = Zp.mk' S.R 0 + 1
    rw [Zp.mk_zero, zero_add]
  · rw [if_neg (by omega), add_zero, h1 i (by omega), List.getD_eq_getElem?_getD, List.getElem?_eq_none (by omega)]; rfl
theorem irr_iff (S : FS) (h1 : 1 < S.m) (hl : S.mod.length = S.m) (hd : Digs S.P S.mod) : IrrP S.P S.mod ↔ Rs.Irr S.mon := by
  have hf := S.mon_mo h1 hl
  constructor
  · intro h
    have key : ∀ (g : PS (Zp S.R)) (d : Nat), 1 ≤ d → 2 * d ≤ S.m → dl g (d + 1) → g d = 1 → ¬ Dv g S.mon.f := fun g d d1 d2 g1 g2 g3 => by
      obtain ⟨v, hv, rfl⟩ := S.mo_ex g1 g2
      refine h d d1 (by omega) v hv ((S.divP_iff hd (by rw [length_digL]; omega)).2 ?_)
      rw [← hf]
      exact g3
    intro g d d1 d2 g1 g2 g3
    by_cases hdd : 2 * d ≤ S.m
    · exact key g d d1 hdd g1 g2 g3
    · have d2' : d < S.m := d2
      obtain ⟨q, n, hq, e⟩ := g3
      have hq0 : q ≠ 0 := fun h => Rs.hne S.mon (by rw [e, h, zero_mul, zero_at])
      obtain ⟨k, _, k1, k2⟩ := deg_ex hq hq0
      have t := mul_top k1 g1
      rw [← e, g2, mul_one] at t
      have hk : k + d = S.m := by
        rcases Nat.lt_trichotomy (k + d) S.m with h | h | h
        · have := dl_mul' (k := k + d + 1) k1 g1 (by omega)
          rw [← e] at this
          exact absurd (this S.m (by omega)) (Rs.hne S.mon)
        · exact h
        · rw [S.mon.hf (k + d) (by show S.m + 1 ≤ k + d; omega)] at t
          exact absurd t.symm k2
      rw [hk] at t
      have t' : q k = 1 := by rw [← t]; exact S.mon.h1
      exact key q k (by omega) (by omega) k1 t' ⟨g, _, g1, by rw [e, mul_comm]⟩
  · intro h d d1 d2 v hv hdv
    have := (S.divP_iff hd (by rw [length_digL]; omega)).1 hdv
    rw [← hf] at this
    have hlen : (digL S.P v d).length = d := length_digL _ _ _
    have m1 := S.mo_dl (digL S.P v d)
    have m2 := S.mo_top (digL S.P v d)
    rw [hlen] at m1 m2
    exact h _ d d1 (by show d < S.m; omega) m1 m2 this
end FS

/-- The description's numbers, of a shape that fits. -/
def fsOf (P M : Int) (mod : List Int) (h : ShapeP P M mod) : FS := ⟨P, M.toNat, mod, h.2.1, by have := ordS_pos h.1; omega⟩
theorem field_irr {P M : Int} {mod : List Int} (h : ShapeP P M mod) : FieldP P M mod ↔ Rs.Irr (fsOf P M mod h).mon := by
  obtain ⟨o1, o2, o3, o4, o5, o6⟩ := ordS_pos h.1
  constructor
  · rintro ⟨_, x, h1, h2, h3⟩
    rw [o6] at h2 h3
    exact (fsOf P M mod h).gen_irr (x := x) ⟨by omega, h2⟩ h3
  · intro hi
    obtain ⟨x, h1, h2, h3⟩ := (fsOf P M mod h).irr_gen hi
    exact ⟨h, x, h1, by rw [o6]; exact h2, by rw [o6]; exact h3⟩
/-- The program's test and the reference's are one. -/
theorem field_check (P M : Int) (mod : List Int) : FieldP P M mod ↔ CheckP P M mod := by
  constructor
  · intro hf
    refine ⟨hf.1, fun hM => ?_⟩
    obtain ⟨o1, o2, o3, o4, o5, o6⟩ := ordS_pos hf.1.1
    obtain ⟨s1, s2⟩ := hf.1.2.2.2 hM
    exact ((fsOf P M mod hf.1).irr_iff (by show 1 < M.toNat; omega) (by show mod.length = M.toNat; omega) s2).2 ((field_irr hf.1).1 hf)
  · rintro ⟨hs, hi⟩
    obtain ⟨o1, o2, o3, o4, o5, o6⟩ := ordS_pos hs.1
    rw [field_irr hs]
    by_cases hM : M = 1
    · intro g d d1 d2
      have : d < M.toNat := d2
      omega
    · obtain ⟨s1, s2⟩ := hs.2.2.2 hM
      exact ((fsOf P M mod hs).irr_iff (by show 1 < M.toNat; omega) (by show mod.length = M.toNat; omega) s2).1 (hi hM)
end Cw
