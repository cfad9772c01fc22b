/- Linear feedback shift registers: the algorithm of Berlekamp and Massey, the lemma of Massey, uniqueness. Plain algebra, no program in sight. No conditions. Ranks by elimination; the equations for the coefficients of a register. Plain algebra, no program in sight. No conditions. The key equation: Euclid's algorithm stopped halfway, the uniqueness of the reduced pair, locators, evaluators, syndromes, the formula of Forney, the decoder of Gao. Plain algebra, no program in sight. No conditions. -/
import Derived.Test.YtmakdclgpeochaaMaA
namespace Cw
open Rg Fd PS
namespace Pl
variable {α : Type} [Fd α]

/-- The register with the connection polynomial c and the length l generates the first n entries of s. -/
structure Reg (c : Pl α) (l : Nat) (s : PS α) (n : Nat) : Prop where
  one : c.a 0 = 1
  len : c.ln ≤ l + 1
  gen : ∀ j, l ≤ j → j < n → (c.a * s) j = 0
theorem Reg.mono {c : Pl α} {l n m : Nat} {s : PS α} (h : Reg c l s n) (hm : m ≤ n) : Reg c l s m := ⟨h.one, h.len, fun j h1 h2 => h.gen j h1 (by omega)⟩
theorem Reg.ne {c : Pl α} {l n : Nat} {s : PS α} (h : Reg c l s n) : c ≠ 0 := ne_of_at (i := 0) (by rw [h.one]; exact Fd.one_ne)
/-- The lemma of Massey. -/
theorem massey {c c' : Pl α} {l l' n : Nat} {s : PS α} (h : Reg c l s n) (hd : (c.a * s) n ≠ 0) (k : Reg c' l' s (n + 1)) : n + 1 ≤ l + l' := by
  rcases Nat.lt_or_ge n (l + l') with g | g
  · omega
  · exfalso
    refine hd ?_
    have e1 : (c'.a * (c.a * s)) n = (c.a * s) n := by
      rw [PS.mul_at, sm_one (k := 0) (by omega) (fun i hi h0 => ?_), k.one, one_mul, Nat.sub_zero]
      by_cases hl : i ≤ l'
      · rw [h.gen (n - i) (by omega) (by omega), mul_zero]
      · rw [ln_le.1 k.len i (by omega), zero_mul]
    have e2 : (c.a * (c'.a * s)) n = 0 := by
      rw [PS.mul_at]
      refine sm_eq_zero fun i hi => ?_
      by_cases hl : i ≤ l
      · rw [k.gen (n - i) (by omega) (by omega), mul_zero]
      · rw [ln_le.1 h.len i (by omega), zero_mul]
    rw [← e1, ← e2]
    congr 1
    ac_rfl

/-- What holds after j entries. -/
structure BM (s : PS α) (c old : Pl α) (b : α) (l since j : Nat) : Prop where
  reg : Reg c l s j
  least : ∀ c' l', Reg c' l' s j → l ≤ l'
  hb : b ≠ 0
  s1 : 1 ≤ since
  s2 : l + since ≤ j + 1
  od : old.ln + l + since ≤ j + 2
  oz : ∀ i, j + 1 ≤ i + l + since → i + since < j → (old.a * s) i = 0
  ob : since ≤ j → (old.a * s) (j - since) = b
  o0 : since = j + 1 → l = 0
theorem bm_start (s : PS α) : BM s 1 1 1 0 1 0 := ⟨⟨by rw [one_a, one_at, if_pos rfl], by rw [ln_one]; omega, fun j _ h => by omega⟩, fun _ _ _ => by omega, Fd.one_ne, by omega, by omega, by rw [ln_one]; omega, fun i _ h => by omega, fun h => by omega, fun _ => rfl⟩
theorem bm_zero {s : PS α} {c old : Pl α} {b : α} {l since j : Nat} (h : BM s c old b l since j) (hd : (c.a * s) j = 0) : BM s c old b l (since + 1) (j + 1) where
  reg := ⟨h.reg.one, h.reg.len, fun i h1 h2 => by
    by_cases e : i = j
    · rw [e, hd]
    · exact h.reg.gen i h1 (by omega)⟩
  least := fun c' l' k => h.least c' l' (k.mono (by omega))
  hb := h.hb
  s1 := by omega
  s2 := by have := h.s2; omega
  od := by have := h.od; omega
  oz := fun i h1 h2 => h.oz i (by omega) (by omega)
  ob := fun h1 => by rw [show j + 1 - (since + 1) = j - since by omega]; exact h.ob (by omega)
  o0 := fun h1 => h.o0 (by omega)
/-- The connection polynomial less a shifted multiple of an older one. -/
def bmn (c old : Pl α) (q : α) (since : Nat) : Pl α := c - x since * (Pl.c q * old)
theorem bmn_a (c old : Pl α) (q : α) (since : Nat) (s : PS α) (i : Nat) : ((bmn c old q since).a * s) i = (c.a * s) i - if i < since then 0 else q * (old.a * s) (i - since) := by
  have e : (bmn c old q since).a * s = c.a * s - X since * (C q * (old.a * s)) := by
    show (c.a - X since * (C q * old.a)) * s = _
    rw [sub_mul]
    congr 1
    ac_rfl
  rw [e, sub_at, X_mul_at]
  split
  · rfl
  · rw [C_mul_at]
theorem bmn_gen {s : PS α} {c old : Pl α} {b : α} {l since j : Nat} (h : BM s c old b l since j) {m : Nat} (hm1 : l ≤ m) (hm2 : j + 1 ≤ m + l) : ∀ i, m ≤ i → i < j + 1 → ((bmn c old ((c.a * s) j * inv b) since).a * s) i = 0 := fun i h1 h2 => by
  rw [bmn_a]
  by_cases e : i = j
  · subst e
    by_cases hs : i < since
    · have := h.s2
      have := h.o0 (by omega)
      omega
    · rw [if_neg hs, h.ob (by omega), mul_assoc, inv_mul h.hb, mul_one, sub_self]
  · rw [h.reg.gen i (by omega) (by omega), zero_sub]
    split
    · rw [neg_zero]
    · rw [h.oz (i - since) (by omega) (by omega), mul_zero, neg_zero]
theorem bmn_one {s : PS α} {c old : Pl α} {b : α} {l since j : Nat} (h : BM s c old b l since j) (q : α) : (bmn c old q since).a 0 = 1 := by
  show (c.a - X since * (C q * old.a) : PS α) 0 = 1
  have h1 := h.s1
  rw [sub_at, X_mul_at, if_pos (by omega), sub_zero, h.reg.one]
theorem bmn_len {s : PS α} {c old : Pl α} {b : α} {l since j : Nat} (h : BM s c old b l since j) (q : α) {m : Nat} (hm1 : l ≤ m) (hm2 : j + 1 ≤ m + l) : (bmn c old q since).ln ≤ m + 1 := by
  refine ln_sub_le (Nat.le_trans h.reg.len (by omega)) (Nat.le_trans (ln_mul_le _ _) ?_)
  have h1 := ln_cmul_le q old
  have h2 := h.od
  rw [ln_x]
  show since + 1 + (Pl.c q * old).ln - 1 ≤ m + 1
  omega
theorem bm_jump {s : PS α} {c old : Pl α} {b : α} {l since j : Nat} (h : BM s c old b l since j) (hd : (c.a * s) j ≠ 0) (hl : 2 * l ≤ j) :
    BM s (bmn c old ((c.a * s) j * inv b) since) c ((c.a * s) j) (j + 1 - l) 1 (j + 1) where
  reg := ⟨bmn_one h _, bmn_len h _ (by omega) (by omega), bmn_gen h (by omega) (by omega)⟩
  least := fun c' l' k => by have := massey h.reg hd k; omega
  hb := hd
  s1 := by omega
  s2 := by omega
  od := by have := h.reg.len; omega
  oz := fun i h1 h2 => h.reg.gen i (by omega) (by omega)
  ob := fun _ => by rw [Nat.add_sub_cancel]
  o0 := fun h1 => by omega
theorem bm_stay {s : PS α} {c old : Pl α} {b : α} {l since j : Nat} (h : BM s c old b l since j) (hl : j < 2 * l) :
    BM s (bmn c old ((c.a * s) j * inv b) since) old b l (since + 1) (j + 1) where
  reg := ⟨bmn_one h _, bmn_len h _ (by omega) (by omega), bmn_gen h (by omega) (by omega)⟩
  least := fun c' l' k => h.least c' l' (k.mono (by omega))
  hb := h.hb
  s1 := by omega
  s2 := by have := h.s2; omega
  od := by have := h.od; omega
  oz := fun i h1 h2 => h.oz i (by omega) (by omega)
  ob := fun h1 => by rw [show j + 1 - (since + 1) = j - since by omega]; exact h.ob (by omega)
  o0 := fun h1 => by have := h.s2; omega

/-- The least length of a register that generates the first n entries. -/
structure IsCx (s : PS α) (n l : Nat) : Prop where
  ex : ∃ c, Reg c l s n
  least : ∀ c' l', Reg c' l' s n → l ≤ l'
theorem cx_unique {s : PS α} {n l l' : Nat} (h : IsCx s n l) (k : IsCx s n l') : l = l' := by
  obtain ⟨c, hc⟩ := h.ex
  obtain ⟨c', hc'⟩ := k.ex
  have := h.least c' l' hc'
  have := k.least c l hc
  omega
theorem BM.cx {s : PS α} {c old : Pl α} {b : α} {l since j : Nat} (h : BM s c old b l since j) : IsCx s j l := ⟨⟨c, h.reg⟩, h.least⟩
/-- A longer register. -/
theorem Reg.up {c : Pl α} {l n m : Nat} {s : PS α} (h : Reg c l s n) (hm : l ≤ m) : Reg c m s n := ⟨h.one, by have := h.len; omega, fun j h1 h2 => h.gen j (by omega) h2⟩
theorem cx_ex (s : PS α) : ∀ n, ∃ l c old b since, BM s c old b l since n
  | 0 => ⟨_, _, _, _, _, bm_start s⟩
  | n + 1 => by
    obtain ⟨l, c, old, b, since, h⟩ := cx_ex s n
    by_cases hd : (c.a * s) n = 0
    · exact ⟨_, _, _, _, _, bm_zero h hd⟩
    · rcases Nat.lt_or_ge n (2 * l) with g | g
      · exact ⟨_, _, _, _, _, bm_stay h g⟩
      · exact ⟨_, _, _, _, _, bm_jump h hd g⟩
noncomputable def cx (s : PS α) (n : Nat) : Nat := (cx_ex s n).choose
theorem cx_is (s : PS α) (n : Nat) : IsCx s n (cx s n) := by
  obtain ⟨c, old, b, since, h⟩ := (cx_ex s n).choose_spec
  exact h.cx
theorem cx_of {s : PS α} {n l : Nat} (h : IsCx s n l) : cx s n = l := cx_unique (cx_is s n) h
theorem cx_le_of {s : PS α} {n l : Nat} {c : Pl α} (h : Reg c l s n) : cx s n ≤ l := (cx_is s n).least c l h
theorem cx_zero (s : PS α) : cx s 0 = 0 := cx_of (bm_start s).cx
theorem cx_len (s : PS α) (n : Nat) : cx s n ≤ n := cx_le_of (c := 1) ⟨by rw [one_a, one_at, if_pos rfl], by rw [ln_one]; omega, fun j h1 h2 => by omega⟩
/-- From one beginning to the next. -/
theorem cx_step (s : PS α) (n : Nat) : cx s (n + 1) = cx s n ∨ (cx s (n + 1) = n + 1 - cx s n ∧ cx s n < cx s (n + 1)) := by
  obtain ⟨l, c, old, b, since, h⟩ := cx_ex s n
  rw [cx_of h.cx]
  by_cases hd : (c.a * s) n = 0
  · exact .inl (cx_of (bm_zero h hd).cx)
  · rcases Nat.lt_or_ge n (2 * l) with g | g
    · exact .inl (cx_of (bm_stay h g).cx)
    · refine .inr ?_
      rw [cx_of (bm_jump h hd g).cx]
      omega
/-- A polynomial with the lowest entries of a sequence. -/
def cut (s : PS α) (n : Nat) : Pl α := ⟨⟨fun i => if i < n then s i else 0⟩, n, fun i hi => by show (if i < n then s i else 0) = 0; rw [if_neg (by omega)]⟩
theorem cut_at (s : PS α) (n i : Nat) : (cut s n).a i = if i < n then s i else 0 := rfl
theorem cut_ln (s : PS α) (n : Nat) : (cut s n).ln ≤ n := ln_le.2 fun i hi => by rw [cut_at, if_neg (by omega)]
theorem mul_cut (a s : PS α) {n i : Nat} (h : i < n) : (a * (cut s n).a) i = (a * s) i := by
  rw [PS.mul_at, PS.mul_at]
  exact sm_congr fun j hj => by rw [cut_at, if_pos (by omega)]
/-- A power series with a constant other than 0 has no effect on what is 0 at the beginning. -/
theorem low_zero {h z : PS α} (h0 : h 0 ≠ 0) {n : Nat} (k : ∀ i, i < n → (h * z) i = 0) : ∀ i, i < n → z i = 0 := fun i => by
  induction i using Nat.strongRecOn with
  | _ i ih =>
    intro hi
    have h1 := k i hi
    rw [PS.mul_at, sm_one (k := 0) (by omega) (fun j hj hne => by rw [ih (i - j) (by omega) (by omega), mul_zero]), Nat.sub_zero] at h1
    rcases Fd.mul_eq_zero h1 with e | e
    · exact absurd e h0
    · exact e
/-- The connection polynomial of a shortest register and what it makes of the sequence have no common divisor. -/
theorem reg_cop {cc : Pl α} {l n : Nat} {s : PS α} (h : Reg cc l s n) (least : ∀ c' l', Reg c' l' s n → l ≤ l') : Cop cc (cut (cc.a * s) l) := by
  refine cop_of (fun e => h.ne e.1) fun p ⟨c1, e1⟩ ⟨v1, e2⟩ => ?_
  refine Nat.le_of_not_lt fun g => ?_
  have hp0 : c1.a 0 * p.a 0 = 1 := by
    have := h.one
    rw [e1, mul_a, PS.mul_at] at this
    simpa only [sm_succ, sm_zero, zero_add] using this
  have hpz : p.a 0 ≠ 0 := fun e => Fd.one_ne (by rw [← hp0, e, mul_zero])
  have hcz : c1 ≠ 0 := fun e => h.ne (by rw [e1, e, zero_mul])
  have hpn : p ≠ 0 := fun e => h.ne (by rw [e1, e, mul_zero])
  have n1 := ln_mul hcz hpn
  rw [← e1] at n1
  have n2 := h.len
  have hlow : ∀ i, i < n → (c1.a * s - v1.a) i = 0 := by
    refine low_zero hpz fun i hi => ?_
    have h1 : p.a * (c1.a * s - v1.a) = cc.a * s - (cut (cc.a * s) l).a := by
      rw [e2, mul_sub, show cc.a = c1.a * p.a from congrArg Pl.a e1, mul_a]
      congr 1 <;> ac_rfl
    rw [h1, sub_at, cut_at]
    by_cases hil : i < l
    · rw [if_pos hil, sub_self]
    · rw [if_neg hil, h.gen i (by omega) hi, sub_zero]
  have hreg : ∀ m, c1.ln ≤ m + 1 → v1.ln ≤ m → Reg (c (p.a 0) * c1) m s n := fun m m1 m2 => by
    refine ⟨by rw [c_mul_at, mul_comm, hp0], Nat.le_trans (ln_cmul_le _ _) m1, fun j j1 j2 => ?_⟩
    show (C (p.a 0) * c1.a * s) j = 0
    rw [mul_assoc, C_mul_at]
    have := hlow j j2
    rw [sub_at] at this
    rw [sub_eq_zero this, ln_le.1 m2 j j1, mul_zero]
  have hv : v1.ln + 1 ≤ l := by
    by_cases hv0 : v1 = 0
    · rw [hv0, ln_zero]; have := ln_pos hcz; omega
    · have n3 := ln_mul hv0 hpn
      rw [← e2] at n3
      have := cut_ln (cc.a * s) l
      omega
  have := least _ _ (hreg (l - 1) (by omega) (by omega))
  omega
/-- What the register makes of the sequence, modulo x^n. -/
theorem reg_cut {cc : Pl α} {l n : Nat} {s : PS α} (h : Reg cc l s n) : ∀ i, i < n → (cc.a * s) i = (cut (cc.a * s) l).a i := fun i hi => by
  rw [cut_at]
  by_cases hil : i < l
  · rw [if_pos hil]
  · rw [if_neg hil, h.gen i (by omega) hi]
/-- Two polynomials with the same low coefficients. -/
theorem eq_low {p q : Pl α} {n : Nat} (hp : p.ln ≤ n) (hq : q.ln ≤ n) (h : ∀ i, i < n → p.a i = q.a i) : p = q := ext (PS.ext fun i => by
  by_cases hi : i < n
  · exact h i hi
  · rw [ln_le.1 hp i (by omega), ln_le.1 hq i (by omega)])
theorem mul_low_congr {a b z : PS α} {n : Nat} (h : ∀ i, i < n → a i = b i) : ∀ i, i < n → (z * a) i = (z * b) i := fun i hi => by
  rw [PS.mul_at, PS.mul_at]
  exact sm_congr fun j _ => by rw [h (i - j) (by omega)]
/-- Two registers of the least length, if this is at most half the number of entries, are equal. -/
theorem reg_unique {c1 c2 : Pl α} {l n : Nat} {s : PS α} (h : Reg c1 l s n) (k : Reg c2 l s n) (hl : 2 * l ≤ n) (least : ∀ c' l', Reg c' l' s n → l ≤ l') : c1 = c2 := by
  refine (cop_frac (reg_cop h least) (reg_cop k least) h.one k.one ?_).1
  have l1 := cut_ln (c1.a * s) l
  have l2 := cut_ln (c2.a * s) l
  have h1 := h.len
  have h2 := k.len
  refine eq_low (n := n) (Nat.le_trans (ln_mul_le _ _) (by omega)) (Nat.le_trans (ln_mul_le _ _) (by omega)) fun i hi => ?_
  rw [mul_a, mul_a, ← mul_low_congr (reg_cut h) i hi, ← mul_low_congr (reg_cut k) i hi]
  congr 1
  ac_rfl
/-- A register of at most half the length of what another generates, generates all of it. -/
theorem reg_all {c1 c2 : Pl α} {l m n k : Nat} {s : PS α} (h : Reg c1 l s n) (hk : Reg c2 m s k) (hl : l + m ≤ n) : Reg c1 l s k := by
  rcases Nat.lt_or_ge k n with g | g
  · exact h.mono (by omega)
  obtain ⟨d, rfl⟩ := Nat.exists_eq_add_of_le g
  induction d with
  | zero => exact h
  | succ d ih =>
    have h1 := ih (hk.mono (by omega)) (by omega)
    refine ⟨h.one, h.len, fun j j1 j2 => ?_⟩
    by_cases e : j = n + d
    · subst e
      exact Classical.byContradiction fun hne => by
        have := massey h1 hne hk
        omega
    · exact h1.gen j j1 (by omega)
/-- Sums and multiples. -/
theorem reg_add {c1 c2 : Pl α} {l m n : Nat} {s t : PS α} (h : Reg c1 l s n) (k : Reg c2 m t n) : Reg (c1 * c2) (l + m) (s + t) n := by
  refine ⟨?_, ?_, fun j j1 j2 => ?_⟩
  · rw [mul_a, PS.mul_at]
    show sm 0 _ + c1.a 0 * c2.a (0 - 0) = 1
    rw [sm_zero, zero_add, h.one, k.one, mul_one]
  · have := ln_mul_le c1 c2
    have := h.len
    have := k.len
    omega
  · have e : (c1 * c2).a * (s + t) = c2.a * (c1.a * s) + c1.a * (c2.a * t) := by rw [mul_a, mul_add]; congr 1 <;> ac_rfl
    rw [e, add_at, PS.mul_at, PS.mul_at, sm_eq_zero (fun i hi => ?_), sm_eq_zero (fun i hi => ?_), add_zero]
    · by_cases hm : i ≤ l
      · rw [k.gen (j - i) (by omega) (by omega), mul_zero]
      · rw [ln_le.1 h.len i (by omega), zero_mul]
    · by_cases hm : i ≤ m
      · rw [h.gen (j - i) (by omega) (by omega), mul_zero]
      · rw [ln_le.1 k.len i (by omega), zero_mul]
theorem cx_add (s t : PS α) (n : Nat) : cx (s + t) n ≤ cx s n + cx t n := by
  obtain ⟨c1, h1⟩ := (cx_is s n).ex
  obtain ⟨c2, h2⟩ := (cx_is t n).ex
  exact cx_le_of (reg_add h1 h2)
theorem reg_mul {c1 : Pl α} {l n : Nat} {s : PS α} (y : α) (h : Reg c1 l s n) : Reg c1 l (C y * s) n := ⟨h.one, h.len, fun j j1 j2 => by
  have e : c1.a * (C y * s) = C y * (c1.a * s) := by ac_rfl
  rw [e, C_mul_at, h.gen j j1 j2, mul_zero]⟩
theorem cx_mul {y : α} (hy : y ≠ 0) (s : PS α) (n : Nat) : cx (C y * s) n = cx s n := by
  refine Nat.le_antisymm ?_ ?_
  · obtain ⟨c1, h1⟩ := (cx_is s n).ex
    exact cx_le_of (reg_mul y h1)
  · obtain ⟨c1, h1⟩ := (cx_is (C y * s) n).ex
    have := reg_mul (inv y) h1
    rw [← mul_assoc, ← C_mul, Fd.inv_mul hy, C_one, one_mul] at this
    exact cx_le_of this
theorem cx_nil (n : Nat) : cx (0 : PS α) n = 0 := Nat.le_zero.1 (cx_le_of (c := 1) (l := 0) ⟨by rw [one_a, one_at, if_pos rfl], by rw [ln_one]; omega, fun j _ _ => by rw [mul_zero]; rfl⟩)
/-- Only the first n entries matter. -/
theorem reg_congr {cc : Pl α} {l n : Nat} {s t : PS α} (e : ∀ i, i < n → s i = t i) (h : Reg cc l s n) : Reg cc l t n := ⟨h.one, h.len, fun j j1 j2 => by
  rw [← mul_low_congr e j j2]; exact h.gen j j1 j2⟩
theorem cx_congr {n : Nat} {s t : PS α} (e : ∀ i, i < n → s i = t i) : cx s n = cx t n := by
  refine cx_unique (cx_is s n) ⟨?_, fun c' l' k => ?_⟩
  · obtain ⟨c1, h1⟩ := (cx_is t n).ex
    exact ⟨c1, reg_congr (fun i hi => (e i hi).symm) h1⟩
  · exact (cx_is t n).least c' l' (reg_congr e k)
end Pl
end Cw
namespace Cw
open Rg Fd PS
namespace Rk
variable {α : Type} [Fd α]

/-- The unknowns below number c as in x, the others are t. -/
def put {β : Type} (x : Nat → β) (c : Nat) (t : β) : Nat → β := fun k => if k < c then x k else t
theorem put_lt {β : Type} {x : Nat → β} {c : Nat} {t : β} {k : Nat} (h : k < c) : put x c t k = x k := if_pos h
theorem put_ge {β : Type} {x : Nat → β} {c : Nat} {t : β} {k : Nat} (h : ¬ k < c) : put x c t k = t := if_neg h
theorem sm_put (a x : Nat → α) (c : Nat) (t : α) : sm (c + 1) (fun k => a k * put x c t k) = sm c (fun k => a k * x k) + a c * t := by
  rw [sm_succ, put_ge (by omega)]
  congr 1
  exact sm_congr fun k hk => by rw [put_lt hk]
/-- x solves the first n equations, of c unknowns. -/
def Sol (A : Nat → Nat → α) (n c : Nat) (x : Nat → α) : Prop := ∀ i, i < n → sm c (fun k => A i k * x k) = 0
/-- Column number c is no combination of those before it. -/
def Piv (A : Nat → Nat → α) (n c : Nat) : Prop := ∀ x, Sol A n (c + 1) x → x c = 0
open Classical in
/-- The rank of the first c columns. -/
noncomputable def rk (A : Nat → Nat → α) (n : Nat) : Nat → Nat
  | 0 => 0
  | c + 1 => rk A n c + if Piv A n c then 1 else 0
theorem rk_yes {A : Nat → Nat → α} {n c : Nat} (h : Piv A n c) : rk A n (c + 1) = rk A n c + 1 := by rw [rk, if_pos h]
theorem rk_no {A : Nat → Nat → α} {n c : Nat} (h : ¬ Piv A n c) : rk A n (c + 1) = rk A n c := by rw [rk, if_neg h]; rfl
theorem sol_congr {A B : Nat → Nat → α} {n c : Nat} {x : Nat → α} (h : ∀ i k, i < n → k < c → A i k = B i k) : Sol A n c x ↔ Sol B n c x :=
  ⟨fun g i hi => (sm_congr (fun k hk => by rw [h i k hi hk])).symm.trans (g i hi), fun g i hi => (sm_congr (fun k hk => by rw [h i k hi hk])).trans (g i hi)⟩
theorem piv_congr {A B : Nat → Nat → α} {n c : Nat} (h : ∀ i k, i < n → k < c + 1 → A i k = B i k) : Piv A n c ↔ Piv B n c :=
  ⟨fun g x hx => g x ((sol_congr h).2 hx), fun g x hx => g x ((sol_congr h).1 hx)⟩
theorem rk_congr {A B : Nat → Nat → α} {n : Nat} : ∀ {c : Nat}, (∀ i k, i < n → k < c → A i k = B i k) → rk A n c = rk B n c
  | 0, _ => rfl
  | c + 1, h => by
    have ih := rk_congr (A := A) (B := B) (n := n) (c := c) (fun i k hi hk => h i k hi (by omega))
    have hp := piv_congr (A := A) (B := B) (n := n) (c := c) h
    by_cases g : Piv A n c
    · rw [rk_yes g, rk_yes (hp.1 g), ih]
    · rw [rk_no g, rk_no (fun e => g (hp.2 e)), ih]
theorem rk_le (A : Nat → Nat → α) (n : Nat) : ∀ c, rk A n c ≤ c
  | 0 => Nat.le_refl _
  | c + 1 => by
    have := rk_le A n c
    by_cases g : Piv A n c
    · rw [rk_yes g]; omega
    · rw [rk_no g]; omega
/-- All columns count just if only 0 solves the equations. -/
theorem rk_full {A : Nat → Nat → α} {n c : Nat} : rk A n c = c ↔ ∀ x, Sol A n c x → ∀ k, k < c → x k = 0 := by
  induction c with
  | zero => exact ⟨fun _ _ _ k hk => by omega, fun _ => rfl⟩
  | succ c ih =>
    have hle := rk_le A n c
    constructor
    · intro h x hx
      have g : Piv A n c := Classical.byContradiction fun g => by rw [rk_no g] at h; omega
      rw [rk_yes g] at h
      have hc := g x hx
      have hx' : Sol A n c x := fun i hi => by
        have := hx i hi
        rw [sm_succ, hc, mul_zero, add_zero] at this
        exact this
      intro k hk
      by_cases e : k = c
      · rw [e, hc]
      · exact ih.1 (by omega) x hx' k (by omega)
    · intro h
      have g : Piv A n c := fun x hx => h x hx c (by omega)
      rw [rk_yes g, ih.2 fun x hx k hk => ?_]
      have := h (put x c 0) (fun i hi => by
        rw [sm_put, mul_zero, add_zero]
        exact hx i hi) k (by omega)
      rwa [put_lt hk] at this

/-- The state of an elimination before column number c: r rows are done. -/
structure GS (A : Nat → Nat → α) (n cols c r : Nat) (B : Nat → Nat → α) : Prop where
  eqv : ∀ m x, m ≤ cols → (Sol B n m x ↔ Sol A n m x)
  low : ∀ i k, r ≤ i → i < n → k < c → B i k = 0
  sur : ∀ y : Nat → α, ∃ x : Nat → α, ∀ i, i < r → sm c (fun k => B i k * x k) = y i
  cnt : r = rk A n c
  rn : r ≤ n
theorem gs_start (A : Nat → Nat → α) (n cols : Nat) : GS A n cols 0 0 A := ⟨fun _ _ _ => Iff.rfl, fun _ _ _ _ h => by omega, fun _ => ⟨fun _ => 0, fun _ h => by omega⟩, rfl, by omega⟩
theorem gs_none {A B : Nat → Nat → α} {n cols c r : Nat} (h : GS A n cols c r B) (hc : c < cols) (hz : ∀ i, r ≤ i → i < n → B i c = 0) : GS A n cols (c + 1) r B := by
  refine ⟨h.eqv, fun i k h1 h2 h3 => ?_, fun y => ?_, ?_, h.rn⟩
  · by_cases e : k = c
    · rw [e]; exact hz i h1 h2
    · exact h.low i k h1 h2 (by omega)
  · obtain ⟨x, hx⟩ := h.sur y
    refine ⟨put x c 0, fun i hi => ?_⟩
    rw [sm_put, mul_zero, add_zero]
    exact hx i hi
  · rw [rk_no, ← h.cnt]
    intro g
    obtain ⟨x, hx⟩ := h.sur (fun i => -B i c)
    have hs : Sol B n (c + 1) (put x c 1) := fun i hi => by
      rw [sm_put, mul_one]
      by_cases hir : i < r
      · rw [hx i hir, neg_add]
      · rw [hz i (by omega) hi, add_zero]
        exact sm_eq_zero fun k hk => by rw [h.low i k (by omega) hi hk, zero_mul]
    have := g _ ((h.eqv (c + 1) _ (by omega)).1 hs)
    rw [put_ge (by omega)] at this
    exact Fd.one_ne this
/-- Two rows change places. -/
def swp (B : Nat → Nat → α) (r p : Nat) : Nat → Nat → α := fun i => if i = r then B p else if i = p then B r else B i
/-- A row is taken from those below it. -/
def elm (B : Nat → Nat → α) (c r : Nat) : Nat → Nat → α := fun i k => if i ≤ r then B i k else B i k - B i c * inv (B r c) * B r k
theorem sol_swp {B : Nat → Nat → α} {n r p m : Nat} {x : Nat → α} (hr : r < n) (hp : p < n) : Sol (swp B r p) n m x ↔ Sol B n m x := by
  have f : ∀ (B : Nat → Nat → α), Sol B n m x → Sol (swp B r p) n m x := fun B g i hi => by
    unfold swp
    by_cases e : i = r
    · rw [if_pos e]; exact g p hp
    · rw [if_neg e]
      by_cases e2 : i = p
      · rw [if_pos e2]; exact g r hr
      · rw [if_neg e2]; exact g i hi
  refine ⟨fun g => ?_, f B⟩
  have := f _ g
  have e : swp (swp B r p) r p = B := funext fun i => by
    unfold swp
    by_cases e : i = r
    · subst e
      rw [if_pos rfl]
      by_cases e2 : p = i
      · rw [if_pos e2, e2]
      · rw [if_neg e2, if_pos rfl]
    · rw [if_neg e]
      by_cases e2 : i = p
      · subst e2; rw [if_pos rfl, if_pos rfl]
      · rw [if_neg e2, if_neg e, if_neg e2]
  rwa [e] at this
theorem elm_sm {B : Nat → Nat → α} {c r m i : Nat} {x : Nat → α} (h : ¬ i ≤ r) : sm m (fun k => elm B c r i k * x k) = sm m (fun k => B i k * x k) - B i c * inv (B r c) * sm m (fun k => B r k * x k) := by
  unfold elm
  rw [mul_sm, ← sm_sub]
  refine sm_congr fun k _ => ?_
  rw [if_neg h, sub_mul, mul_assoc (B i c * inv (B r c))]
theorem sol_elm {B : Nat → Nat → α} {n c r m : Nat} {x : Nat → α} (hr : r < n) : Sol (elm B c r) n m x ↔ Sol B n m x := by
  have e0 : ∀ i, i ≤ r → sm m (fun k => elm B c r i k * x k) = sm m (fun k => B i k * x k) := fun i hi => sm_congr fun k _ => by unfold elm; rw [if_pos hi]
  constructor
  · intro g i hi
    have hrz := g r hr
    rw [e0 r (Nat.le_refl _)] at hrz
    by_cases e : i ≤ r
    · rw [← e0 i e]; exact g i hi
    · have := g i hi
      rw [elm_sm e, hrz, mul_zero, sub_zero] at this
      exact this
  · intro g i hi
    by_cases e : i ≤ r
    · rw [e0 i e]; exact g i hi
    · rw [elm_sm e, g i hi, g r hr, mul_zero, sub_zero]
theorem gs_pivot {A B : Nat → Nat → α} {n cols c r p : Nat} (h : GS A n cols c r B) (hc : c < cols) (h1 : r ≤ p) (h2 : p < n) (hp : B p c ≠ 0) : GS A n cols (c + 1) (r + 1) (elm (swp B r p) c r) := by
  have hrr : (swp B r p) r = B p := by unfold swp; rw [if_pos rfl]
  have hlow : ∀ i k, r ≤ i → i < n → k < c → swp B r p i k = 0 := fun i k g1 g2 g3 => by
    unfold swp
    by_cases e : i = r
    · rw [if_pos e]; exact h.low p k h1 h2 g3
    · rw [if_neg e]
      by_cases e2 : i = p
      · rw [if_pos e2]; exact h.low r k (Nat.le_refl _) (by omega) g3
      · rw [if_neg e2]; exact h.low i k g1 g2 g3
  have htop : ∀ i, i < r → elm (swp B r p) c r i = B i := fun i hi => funext fun k => by
    unfold elm swp
    rw [if_pos (by omega), if_neg (by omega), if_neg (by omega)]
  have hrow : elm (swp B r p) c r r = B p := funext fun k => by
    unfold elm
    rw [if_pos (Nat.le_refl _), hrr]
  have heqv : ∀ m x, m ≤ cols → (Sol (elm (swp B r p) c r) n m x ↔ Sol A n m x) := fun m x hm => (sol_elm (by omega)).trans ((sol_swp (by omega) h2).trans (h.eqv m x hm))
  refine ⟨heqv, fun i k g1 g2 g3 => ?_, fun y => ?_, ?_, by omega⟩
  · unfold elm
    rw [if_neg (by omega)]
    by_cases e : k = c
    · subst e
      rw [mul_assoc, hrr, inv_mul hp, mul_one, sub_self]
    · rw [hlow i k (by omega) g2 (by omega), hlow r k (Nat.le_refl _) (by omega) (by omega), mul_zero, sub_zero]
  · obtain ⟨x, hx⟩ := h.sur (fun i => y i - B i c * (y r * inv (B p c)))
    refine ⟨put x c (y r * inv (B p c)), fun i hi => ?_⟩
    rw [sm_put]
    by_cases e : i = r
    · subst e
      rw [hrow, sm_eq_zero (fun k hk => by rw [h.low p k h1 h2 hk, zero_mul]), zero_add]
      rw [show B p c * (y i * inv (B p c)) = y i * (B p c * inv (B p c)) by ac_rfl, mul_inv _ hp, mul_one]
    · rw [htop i (by omega), hx i (by omega), sub_add_cancel]
  · rw [rk_yes, ← h.cnt]
    intro x hx
    have := (heqv (c + 1) x (by omega)).2 hx r (by omega)
    rw [hrow, sm_succ, sm_eq_zero (fun k hk => by rw [h.low p k h1 h2 hk, zero_mul]), zero_add] at this
    rcases Fd.mul_eq_zero this with e | e
    · exact absurd e hp
    · exact e
theorem gs_ex (A : Nat → Nat → α) (n cols : Nat) : ∀ c, c ≤ cols → ∃ r B, GS A n cols c r B
  | 0, _ => ⟨_, _, gs_start A n cols⟩
  | c + 1, hc => by
    obtain ⟨r, B, h⟩ := gs_ex A n cols c (by omega)
    by_cases g : ∃ p, r ≤ p ∧ p < n ∧ B p c ≠ 0
    · obtain ⟨p, h1, h2, hp⟩ := g
      exact ⟨_, _, gs_pivot h hc h1 h2 hp⟩
    · exact ⟨_, _, gs_none h hc fun i h1 h2 => Classical.byContradiction fun e => g ⟨i, h1, h2, e⟩⟩
theorem rk_rows (A : Nat → Nat → α) (n c : Nat) : rk A n c ≤ n := by
  obtain ⟨r, B, h⟩ := gs_ex A n c c (Nat.le_refl _)
  rw [← h.cnt]
  exact h.rn

/-! ### The equations of registers -/
/-- The equations for the coefficients 1 to l, from entry number l on; column l has the right side. -/
def sys (s : PS α) (l : Nat) : Nat → Nat → α := fun i k => if k < l then s (l + i - (k + 1)) else s (l + i)
theorem sys_reg {s : PS α} {n l : Nat} (hl : l ≤ n) {x : Nat → α} (hx : x l = 1) (h : Sol (sys s l) (n - l) (l + 1) x) : ∃ c, Pl.Reg c l s n := by
  have hdl : dl (⟨fun i => if i = 0 then 1 else if i ≤ l then x (i - 1) else 0⟩ : PS α) (l + 1) := fun i hi => by
    show (if i = 0 then (1 : α) else if i ≤ l then x (i - 1) else 0) = 0
    rw [if_neg (by omega), if_neg (by omega)]
  refine ⟨⟨_, _, hdl⟩, ⟨rfl, Pl.ln_le.2 hdl, fun j j1 j2 => ?_⟩⟩
  have h1 := h (j - l) (by omega)
  rw [sm_succ, hx, mul_one] at h1
  have h2 : ((⟨fun i => if i = 0 then 1 else if i ≤ l then x (i - 1) else 0⟩ : PS α) * s) j = sm l (fun k => sys s l (j - l) k * x k) + sys s l (j - l) l := by
    rw [PS.mul_at, show j + 1 = (l + 1) + (j - l) by omega, sm_split, sm_eq_zero (n := j - l) (fun i hi => by
      show (if l + 1 + i = 0 then (1 : α) else if l + 1 + i ≤ l then x (l + 1 + i - 1) else 0) * _ = 0
      rw [if_neg (by omega), if_neg (by omega), zero_mul]), add_zero, sm_first, add_comm]
    congr 1
    · refine sm_congr fun k hk => ?_
      show (if k + 1 = 0 then (1 : α) else if k + 1 ≤ l then x (k + 1 - 1) else 0) * _ = sys s l (j - l) k * x k
      unfold sys
      rw [if_neg (by omega), if_pos (by omega), if_pos hk, Nat.add_sub_cancel, show l + (j - l) = j by omega, mul_comm]
    · show (1 : α) * s (j - 0) = sys s l (j - l) l
      unfold sys
      rw [if_neg (by omega), one_mul, show l + (j - l) = j by omega, Nat.sub_zero]
  show ((⟨fun i => if i = 0 then 1 else if i ≤ l then x (i - 1) else 0⟩ : PS α) * s) j = 0
  rw [h2, h1]
theorem reg_mul_sys {c : Pl α} {s : PS α} {l j : Nat} (hc : c.ln ≤ l + 1) (hj : l ≤ j) : (c.a * s) j = c.a 0 * s j + sm l (fun k => sys s l (j - l) k * c.a (k + 1)) := by
  rw [PS.mul_at, show j + 1 = (l + 1) + (j - l) by omega, sm_split, sm_eq_zero (n := j - l) (fun i hi => by
    rw [Pl.ln_le.1 hc (l + 1 + i) (by omega), zero_mul]), add_zero, sm_first, Nat.sub_zero]
  congr 1
  refine sm_congr fun k hk => ?_
  unfold sys
  rw [if_pos hk, show l + (j - l) = j by omega, mul_comm]
theorem sys_sol {s : PS α} {n l : Nat} (hl : l ≤ n) {c : Pl α} (h : Pl.Reg c l s n) : Sol (sys s l) (n - l) (l + 1) (put (fun k => c.a (k + 1)) l 1) := fun i hi => by
  have h1 := h.gen (l + i) (by omega) (by omega)
  rw [reg_mul_sys h.len (by omega), h.one, one_mul, show l + i - l = i by omega] at h1
  rw [sm_put, mul_one]
  have : sys s l i l = s (l + i) := by unfold sys; rw [if_neg (by omega)]
  rw [this, add_comm]
  exact h1
/-- The equations have a solution just if both ranks are equal. -/
theorem sys_rk {s : PS α} {n l : Nat} (hl : l ≤ n) : rk (sys s l) (n - l) l = rk (sys s l) (n - l) (l + 1) ↔ ∃ c, Pl.Reg c l s n := by
  constructor
  · intro h
    have g : ¬ Piv (sys s l) (n - l) l := fun g => by rw [rk_yes g] at h; omega
    obtain ⟨x, hx⟩ := Classical.not_forall.1 g
    obtain ⟨h1, h2⟩ := Classical.not_imp.1 hx
    refine sys_reg hl (x := fun k => inv (x l) * x k) (inv_mul h2) fun i hi => ?_
    have := h1 i hi
    rw [sm_congr (g := fun k => inv (x l) * (sys s l i k * x k)) (fun k _ => by show sys s l i k * (inv (x l) * x k) = inv (x l) * (sys s l i k * x k); ac_rfl), ← mul_sm, this, mul_zero]
  · rintro ⟨c, hc⟩
    rw [rk_no]
    intro g
    have := g _ (sys_sol hl hc)
    rw [put_ge (by omega)] at this
    exact Fd.one_ne this
/-- The equations for the least length have one solution just if it is at most half the number of entries. -/
theorem sys_unique {s : PS α} {n l : Nat} (h : Pl.IsCx s n l) (hl : l ≤ n) : rk (sys s l) (n - l) l = l ↔ 2 * l ≤ n := by
  have hrn := rk_rows (sys s l) (n - l) l
  constructor
  · intro e; omega
  · intro h2
    rw [rk_full]
    intro x hx k hk
    obtain ⟨c, hc⟩ := h.ex
    have hdl : dl (⟨fun i => if i = 0 then 0 else if i ≤ l then x (i - 1) else 0⟩ : PS α) (l + 1) := fun i hi => by
      show (if i = 0 then (0 : α) else if i ≤ l then x (i - 1) else 0) = 0
      rw [if_neg (by omega), if_neg (by omega)]
    obtain ⟨d, hd⟩ : ∃ d : Pl α, d = ⟨_, _, hdl⟩ := ⟨_, rfl⟩
    have hdat : ∀ i, d.a i = if i = 0 then 0 else if i ≤ l then x (i - 1) else 0 := fun i => by rw [hd]
    have hdn : d.ln ≤ l + 1 := by rw [hd]; exact Pl.ln_le.2 hdl
    have hr : Pl.Reg (c + d) l s n := by
      refine ⟨?_, Pl.ln_add_le hc.len hdn, fun j j1 j2 => ?_⟩
      · show c.a 0 + d.a 0 = 1
        rw [hc.one, hdat, if_pos rfl, add_zero]
      · show ((c.a + d.a) * s) j = 0
        rw [add_mul, add_at, hc.gen j j1 j2, zero_add, reg_mul_sys hdn j1, hdat, if_pos rfl, zero_mul, zero_add]
        have := hx (j - l) (by omega)
        rw [← this]
        refine sm_congr fun k hk => ?_
        rw [hdat, if_neg (by omega), if_pos (by omega), Nat.add_sub_cancel]
    have e := Pl.reg_unique hr hc h2 (fun c' l' k => h.least c' l' k)
    have e2 := congrArg (fun p : Pl α => p.a (k + 1)) e
    have e2 : c.a (k + 1) + d.a (k + 1) = c.a (k + 1) := e2
    rw [hdat, if_neg (by omega), if_pos (by omega), Nat.add_sub_cancel] at e2
    exact add_left_cancel (e2.trans (add_zero _).symm)
end Rk
end Cw
namespace Cw
open Rg Fd PS
namespace Pl
variable {α : Type} [Fd α]

/-- What holds in Euclid's algorithm for a0 and s, of two successive remainders a, b and their factors o, t. -/
structure Eu (a0 s a b o t : Pl α) : Prop where
  ta : Cg a0 (t * s) b
  oa : Cg a0 (o * s) a
  det : t * a - o * b = a0 ∨ t * a - o * b = -a0
  len : t.ln + a.ln = a0.ln + 1
  tn : t ≠ 0
  lt : b.ln < a.ln
theorem eu_start {a0 s : Pl α} (h : s.ln < a0.ln) : Eu a0 s a0 s 0 1 where
  ta := by rw [one_mul]; exact cg_refl _ _
  oa := by rw [zero_mul]; exact cg_symm (cg_zero.2 (dvd_refl _))
  det := .inl (by rw [one_mul, zero_mul, sub_zero])
  len := by rw [ln_one]; omega
  tn := one_ne
  lt := h
theorem eu_step {a0 s a b o t : Pl α} (h : Eu a0 s a b o t) (hb : b ≠ 0) (hl : o.ln < t.ln + (a.ln - b.ln)) : Eu a0 s b (rem a b) t (o - quo a b * t) ∧ t.ln < (o - quo a b * t).ln + (b.ln - (rem a b).ln) := by
  have h1 : rem a b = a - quo a b * b := (sub_eq (by rw [add_comm]; exact div_eq a b)).symm
  have h2 := rem_lt a hb
  have h3 := h.lt
  have hq : quo a b ≠ 0 := fun e => by
    have := div_eq a b
    rw [e, zero_mul, zero_add] at this
    rw [← this] at h2
    omega
  have h4 : (quo a b).ln + b.ln = a.ln + 1 := by
    have h5 := ln_mul hq hb
    have h6 : (quo a b * b + rem a b).ln = (quo a b * b).ln := ln_add_eq (by have := ln_pos hq; omega)
    rw [← div_eq] at h6
    omega
  have h7 := ln_mul hq h.tn
  have h8 : (o - quo a b * t).ln = (quo a b * t).ln := by
    rw [sub_def, add_comm, ln_add_eq (by rw [ln_neg]; omega), ln_neg]
  have h9 := h.len
  have h10 := ln_pos h.tn
  refine ⟨⟨?_, h.ta, ?_, by omega, fun e => ?_, h2⟩, by omega⟩
  · rw [h1, sub_mul, mul_assoc]
    exact cg_sub h.oa (cg_mul (cg_refl _ _) h.ta)
  · have e : (o - quo a b * t) * b - t * rem a b = -(t * a - o * b) := by
      rw [h1, sub_mul, mul_sub]
      simp only [sub_def, neg_add_rev, neg_neg]
      have : quo a b * t * b = t * (quo a b * b) := by ac_rfl
      rw [this]
      have : o * b + -(t * (quo a b * b)) + (-(t * a) + t * (quo a b * b)) = -(t * a) + o * b + (t * (quo a b * b) + -(t * (quo a b * b))) := by ac_rfl
      rw [this, add_neg, add_zero]
    rw [e]
    rcases h.det with g | g
    · exact .inr (by rw [g])
    · exact .inl (by rw [g, neg_neg])
  · rw [e, ln_zero] at h8
    omega
/-- Euclid's algorithm, stopped where the remainder is short. -/
structure EuEnd (a0 s b t : Pl α) (bound : Int) : Prop where
  ta : Cg a0 (t * s) b
  ex : ∃ a o, Cg a0 (o * s) a ∧ (t * a - o * b = a0 ∨ t * a - o * b = -a0) ∧ t.ln + a.ln = a0.ln + 1 ∧ (bound ≤ 2 * ((a.ln : Int) - 1))
  tn : t ≠ 0
  small : 2 * ((b.ln : Int) - 1) < bound

/-- The quotient of the pair is what any short pair says. -/
theorem eu_pair {a0 s b t L V : Pl α} {bound : Int} (h : EuEnd a0 s b t bound) (hn : a0 ≠ 0) (hk : Cg a0 (L * s) V) (hL : 2 * ((L.ln : Int) - 1) + bound ≤ 2 * ((a0.ln : Int) - 1)) (hV : 2 * ((V.ln : Int) - 1) < bound) : L * b = V * t := by
  obtain ⟨a, o, h1, h2, h3, h4⟩ := h.ex
  have h5 := h.small
  have hd : Cg a0 (L * b) (V * t) := by
    have e1 : Cg a0 (L * b) (L * (t * s)) := cg_mul (cg_refl _ _) (cg_symm h.ta)
    have e2 : Cg a0 (t * (L * s)) (t * V) := cg_mul (cg_refl _ _) hk
    rw [show L * (t * s) = t * (L * s) by ac_rfl] at e1
    rw [show V * t = t * V by ac_rfl]
    exact cg_trans e1 e2
  have hz : L * b - V * t = 0 := by
    by_cases e : L * b - V * t = 0
    · exact e
    · exfalso
      have g1 := dvd_ln hd e
      have g2 := ln_pos hn
      have g3 := ln_pos h.tn
      have g4 := ln_mul_le L b
      have g5 := ln_mul_le V t
      have g6 : (L * b - V * t).ln ≤ a0.ln - 1 := by
        refine ln_sub_le ?_ ?_
        · by_cases l0 : L = 0
          · rw [l0, zero_mul, ln_zero]; omega
          · by_cases b0 : b = 0
            · rw [b0, mul_zero, ln_zero]; omega
            · have := ln_pos l0
              have := ln_pos b0
              omega
        · by_cases v0 : V = 0
          · rw [v0, zero_mul, ln_zero]; omega
          · have := ln_pos v0
            omega
      omega
  exact sub_eq_zero hz

/-- Modulo a power of x. -/
theorem cg_x {n : Nat} {p q : Pl α} : Cg (x n) p q ↔ ∀ i, i < n → p.a i = q.a i := by
  constructor
  · rintro ⟨k, hk⟩ i hi
    have := congrArg (fun r : Pl α => r.a i) hk
    have e : (k * x n).a i = 0 := by rw [mul_comm, x_mul_at, if_pos hi]
    have this : p.a i - q.a i = (k * x n).a i := this
    rw [e] at this
    exact sub_eq_zero this
  · intro h
    refine ⟨⟨⟨fun i => (p - q).a (i + n)⟩, let ⟨m, hm⟩ := (p - q).h; ⟨m, fun i hi => hm (i + n) (by omega)⟩⟩, ext (PS.ext fun i => ?_)⟩
    rw [mul_comm, x_mul_at]
    by_cases hi : i < n
    · rw [if_pos hi]
      show p.a i - q.a i = 0
      rw [h i hi, sub_self]
    · rw [if_neg hi]
      show (p - q).a i = (p - q).a (i - n + n)
      rw [show i - n + n = i by omega]
theorem mul_at0 (p q : Pl α) : (p * q).a 0 = p.a 0 * q.a 0 := by
  rw [mul_a, PS.mul_at]
  simp only [sm_succ, sm_zero, zero_add, Nat.sub_zero]
/-- A divisor of a power of x with a constant other than 0 is a constant. -/
theorem dvd_xn {n : Nat} {p : Pl α} (h : Dvd p (x n)) (h0 : p.a 0 ≠ 0) : p.ln ≤ 1 := by
  obtain ⟨k, hk⟩ := h
  have h1 : ∀ i, i < n → k.a i = 0 := low_zero h0 fun i hi => by
    have : (p.a * k.a) i = (x n : Pl α).a i := by rw [hk]; show _ = (k.a * p.a) i; rw [mul_comm]
    rw [this, x_at, if_neg (by omega)]
  have hkz : k ≠ 0 := fun e => x_ne n (by rw [hk, e, zero_mul])
  have hpz : p ≠ 0 := ne_of_at h0
  have h2 := ln_mul hkz hpz
  rw [← hk, ln_x] at h2
  have h3 : n < k.ln := by
    rcases Nat.lt_or_ge n k.ln with g | g
    · exact g
    · refine absurd (h1 (k.ln - 1) (by have := ln_pos hkz; omega)) (ln_top hkz)
  omega
theorem x_dvd {p : Pl α} : Dvd (x 1) p ↔ p.a 0 = 0 := by
  constructor
  · rintro ⟨k, rfl⟩
    rw [mul_comm, x_mul_at, if_pos (by omega)]
  · intro h
    refine ⟨tl p, ?_⟩
    have := tl_eq p
    rw [h, c_zero, zero_add] at this
    rw [this]
    show _ = tl (x 1 * tl p) * x 1
    have e : tl (x 1 * tl p) = tl p := ext (PS.ext fun i => by
      show (x 1 * tl p).a (i + 1) = _
      rw [x_mul_at, if_neg (by omega), Nat.add_sub_cancel])
    rw [e, mul_comm]
theorem xn_dvd {p : Pl α} {n : Nat} : Dvd (x n) p ↔ ∀ i, i < n → p.a i = 0 := by rw [← cg_zero, cg_x]; rfl

/-- The pair that Euclid's algorithm finds for a power of x has a constant, where any short pair with the constant 1 exists. -/
theorem eu_const {n : Nat} {s b t L V : Pl α} {bound : Int} (h : EuEnd (x n) s b t bound) (hk : Cg (x n) (L * s) V) (hL0 : L.a 0 = 1) (hLb : L * b = V * t) : t.a 0 ≠ 0 := by
  obtain ⟨a, o, h1, h2, h3, h4⟩ := h.ex
  -- the greatest power of x that divides both t and b
  have hex : ∀ m, (∃ k t' b', t = x k * t' ∧ b = x k * b' ∧ (t'.a 0 ≠ 0 ∨ b'.a 0 ≠ 0)) ∨ (Dvd (x m) t ∧ Dvd (x m) b) := by
    intro m
    induction m with
    | zero => exact .inr ⟨⟨t, by rw [x_zero, mul_one]⟩, ⟨b, by rw [x_zero, mul_one]⟩⟩
    | succ m ih =>
      rcases ih with g | ⟨⟨t', ht⟩, ⟨b', hb⟩⟩
      · exact .inl g
      · by_cases e : t'.a 0 = 0 ∧ b'.a 0 = 0
        · obtain ⟨t2, ht2⟩ := x_dvd.2 e.1
          obtain ⟨b2, hb2⟩ := x_dvd.2 e.2
          refine .inr ⟨⟨t2, ?_⟩, ⟨b2, ?_⟩⟩
          · rw [ht, ht2, mul_assoc, show (x (m + 1) : Pl α) = x 1 * x m by rw [← x_add, Nat.add_comm]]
          · rw [hb, hb2, mul_assoc, show (x (m + 1) : Pl α) = x 1 * x m by rw [← x_add, Nat.add_comm]]
        · refine .inl ⟨m, t', b', by rw [ht, mul_comm], by rw [hb, mul_comm], ?_⟩
          by_cases e1 : t'.a 0 = 0
          · exact .inr fun e2 => e ⟨e1, e2⟩
          · exact .inl e1
  obtain ⟨k, t', b', ht, hb, h0⟩ : ∃ k t' b', t = x k * t' ∧ b = x k * b' ∧ (t'.a 0 ≠ 0 ∨ b'.a 0 ≠ 0) := by
    rcases hex t.ln with g | ⟨hx, _⟩
    · exact g
    · have := dvd_ln hx h.tn
      rw [ln_x] at this
      omega
  have hLb' : L * b' = V * t' := by
    refine mul_left_cancel (x_ne k) ?_
    have e1 : x k * (L * b') = L * b := by rw [hb]; ac_rfl
    have e2 : x k * (V * t') = V * t := by rw [ht]; ac_rfl
    rw [e1, e2, hLb]
  have ht0 : t'.a 0 ≠ 0 := by
    rcases h0 with g | g
    · exact g
    · intro e
      have := mul_at0 L b'
      rw [hLb', mul_at0, e, mul_zero, hL0, one_mul] at this
      exact g this.symm
  -- modulo x^n, V t' = L s t'; L has a constant: t' s = b'
  have hs : Cg (x n) (t' * s) b' := by
    rw [cg_x]
    intro i hi
    have e : ∀ i, i < n → (L.a * ((t' * s).a - b'.a)) i = 0 := fun i hi => by
      have g1 := cg_x.1 (cg_mul (cg_refl (x n) t') hk) i hi
      have e1 : L.a * ((t' * s).a - b'.a) = (t' * (L * s)).a - (L * b').a := by
        rw [mul_sub]
        congr 1
        show L.a * (t'.a * s.a) = t'.a * (L.a * s.a)
        ac_rfl
      rw [e1, sub_at, g1, hLb', show V * t' = t' * V by ac_rfl, sub_self]
    have := low_zero (by rw [hL0]; exact Fd.one_ne) e i hi
    rw [sub_at] at this
    exact sub_eq_zero this
  -- t' a - o b' is 0 modulo x^n, and x^(n - k) up to its sign
  have hd : Cg (x n) (t' * a - o * b') 0 := by
    have e1 : Cg (x n) (t' * a) (t' * (o * s)) := cg_mul (cg_refl _ _) (cg_symm h1)
    have e2 : Cg (x n) (o * b') (o * (t' * s)) := cg_mul (cg_refl _ _) (cg_symm hs)
    have e3 := cg_sub e1 e2
    rwa [show t' * (o * s) - o * (t' * s) = 0 by rw [show t' * (o * s) = o * (t' * s) by ac_rfl, sub_self]] at e3
  have he : x k * (t' * a - o * b') = t * a - o * b := by
    rw [mul_sub, ht, hb]
    congr 1 <;> ac_rfl
  have hdiv : Dvd (x (k + n) : Pl α) (x n) := by
    obtain ⟨u, hu⟩ := cg_zero.1 hd
    rw [hu] at he
    rcases h2 with g | g
    · exact ⟨u, by rw [← g, ← he, x_add]; ac_rfl⟩
    · refine ⟨-u, ?_⟩
      rw [neg_mul, x_add]
      have : x k * (u * x n) = u * (x k * x n) := by ac_rfl
      rw [← this, he, g, neg_neg]
  have hk0 : k = 0 := by
    have := dvd_ln hdiv (x_ne n)
    rw [ln_x, ln_x] at this
    omega
  rw [hk0, x_zero, one_mul] at ht
  rw [ht]
  exact ht0
/-- Where it has a constant, the pair is reduced. -/
theorem eu_cop {n : Nat} {s b t : Pl α} {bound : Int} (h : EuEnd (x n) s b t bound) (h0 : t.a 0 ≠ 0) : Cop t b := by
  obtain ⟨a, o, h1, h2, h3, h4⟩ := h.ex
  refine cop_of (fun e => h.tn e.1) fun p hp hq => ?_
  have hd : Dvd p (x n) := by
    have := dvd_sub (dvd_mul' a hp) (dvd_mul o hq)
    rcases h2 with g | g
    · rwa [g] at this
    · rw [g] at this
      have := dvd_neg this
      rwa [neg_neg] at this
  refine dvd_xn hd fun e => h0 ?_
  obtain ⟨k, hk⟩ := hp
  rw [hk, mul_at0, e, mul_zero]
theorem cop_cmul {a b : Pl α} {y z : α} (hy : y ≠ 0) (hz : z ≠ 0) (h : Cop a b) : Cop (c y * a) (c z * b) := by
  refine cop_of (fun e => ?_) fun p hp hq => ?_
  · have h1 : a = 0 := by
      rcases mul_eq_zero e.1 with g | g
      · exact absurd g (c_ne hy)
      · exact g
    have h2 : b = 0 := by
      rcases mul_eq_zero e.2 with g | g
      · exact absurd g (c_ne hz)
      · exact g
    have : gcd a b = 0 := gcd_eq_zero.2 ⟨h1, h2⟩
    rw [show gcd a b = 1 from h] at this
    exact one_ne this
  · have back : ∀ (w : α) (q : Pl α), w ≠ 0 → Dvd p (c w * q) → Dvd p q := fun w q hw ⟨k, hk⟩ => ⟨c (inv w) * k, by
      rw [mul_assoc, ← hk, ← mul_assoc, ← c_mul, Fd.inv_mul hw, c_one, one_mul]⟩
    have g := (gcd_is a b).g p (back y a hy hp) (back z b hz hq)
    rw [show gcd a b = 1 from h] at g
    have := dvd_ln g one_ne
    rwa [ln_one] at this

/-! ### Locators, evaluators, syndromes -/
/-- 1 - y x. -/
def fac (y : α) : Pl α := 1 - c y * x 1
theorem fac_at0 (y : α) : (fac y).a 0 = 1 := by
  show (1 - C y * X 1 : PS α) 0 = 1
  rw [sub_at, C_mul_at, X_at, one_at, if_pos rfl, if_neg (by omega), mul_zero, sub_zero]
theorem fac_ln_le (y : α) : (fac y).ln ≤ 2 := ln_sub_le (by rw [ln_one]; omega) (Nat.le_trans (ln_cmul_le _ _) (by rw [ln_x]; omega))
theorem fac_ne (y : α) : fac y ≠ 0 := ne_of_at (i := 0) (by rw [fac_at0]; exact Fd.one_ne)
theorem ev_fac (y z : α) : ev (fac y) z = 1 - y * z := by unfold fac; rw [ev_sub, ev_one, ev_mul, ev_c, ev_x, pw_one]
theorem der_fac (y : α) : der (fac y) = -c y := by
  have e : fac y = c 1 + c (-y) * x 1 := by
    unfold fac
    rw [sub_def, c_one, c_neg, neg_mul]
  have e2 : der (x 1 : Pl α) = 1 := by
    have := der_xmul (1 : Pl α)
    rw [mul_one, der_one, mul_zero, add_zero] at this
    exact this
  rw [e, der_add, der_c, der_cmul, e2, mul_one, zero_add, c_neg]
/-- The product of the factors but number j (k of them are looked at). -/
noncomputable def lcf (f : Nat → α) : Nat → Pl α
  | 0 => 1
  | k + 1 => lcf f k * fac (f k)
noncomputable def lcx (f : Nat → α) (j : Nat) : Nat → Pl α
  | 0 => 1
  | k + 1 => if k = j then lcx f j k else lcx f j k * fac (f k)
theorem lcf_at0 (f : Nat → α) : ∀ k, (lcf f k).a 0 = 1
  | 0 => by show (1 : PS α) 0 = 1; rw [one_at, if_pos rfl]
  | k + 1 => by show (lcf f k * fac (f k)).a 0 = 1; rw [mul_at0, lcf_at0 f k, fac_at0, mul_one]
theorem lcf_ne (f : Nat → α) (k : Nat) : lcf f k ≠ 0 := ne_of_at (i := 0) (by rw [lcf_at0]; exact Fd.one_ne)
theorem lcf_ln (f : Nat → α) : ∀ k, (lcf f k).ln ≤ k + 1
  | 0 => by show (1 : Pl α).ln ≤ 1; rw [ln_one]; omega
  | k + 1 => by
    have h := lcf_ln f k
    have h2 := fac_ln_le (f k)
    have h3 := ln_mul_le (lcf f k) (fac (f k))
    show (lcf f k * fac (f k)).ln ≤ _
    omega
theorem lcx_far (f : Nat → α) {j : Nat} : ∀ k, k ≤ j → lcx f j k = lcf f k
  | 0, _ => rfl
  | k + 1, h => by
    show (if k = j then _ else lcx f j k * fac (f k)) = lcf f k * fac (f k)
    rw [if_neg (by omega), lcx_far f k (by omega)]
theorem lcx_mul (f : Nat → α) {j : Nat} : ∀ k, j < k → lcx f j k * fac (f j) = lcf f k
  | 0, h => by omega
  | k + 1, h => by
    show (if k = j then _ else lcx f j k * fac (f k)) * fac (f j) = lcf f k * fac (f k)
    by_cases e : k = j
    · subst e
      rw [if_pos rfl, lcx_far f k (Nat.le_refl _)]
    · rw [if_neg e, ← lcx_mul (j := j) f k (by omega)]
      ac_rfl
theorem lcx_ln (f : Nat → α) {j : Nat} : ∀ k, j < k → (lcx f j k).ln ≤ k
  | 0, h => by omega
  | k + 1, h => by
    show (if k = j then lcx f j k else lcx f j k * fac (f k)).ln ≤ _
    by_cases e : k = j
    · subst e
      rw [if_pos rfl, lcx_far f k (Nat.le_refl _)]
      exact lcf_ln f k
    · rw [if_neg e]
      have h1 := lcx_ln (j := j) f k (by omega)
      have h2 := fac_ln_le (f k)
      have h3 := ln_mul_le (lcx f j k) (fac (f k))
      omega
theorem ev_lcf (f : Nat → α) (y : α) : ∀ k, ev (lcf f k) y = 0 ↔ ∃ i, i < k ∧ f i * y = 1
  | 0 => by
    show ev 1 y = 0 ↔ _
    rw [ev_one]
    exact ⟨fun h => absurd h Fd.one_ne, fun ⟨i, hi, _⟩ => absurd hi (by omega)⟩
  | k + 1 => by
    show ev (lcf f k * fac (f k)) y = 0 ↔ _
    rw [ev_mul, ev_fac]
    constructor
    · intro h
      rcases Fd.mul_eq_zero h with e | e
      · obtain ⟨i, hi, he⟩ := (ev_lcf f y k).1 e
        exact ⟨i, by omega, he⟩
      · exact ⟨k, by omega, (sub_eq_zero e).symm⟩
    · rintro ⟨i, hi, he⟩
      by_cases e : i = k
      · subst e; rw [he, sub_self, mul_zero]
      · rw [(ev_lcf f y k).2 ⟨i, by omega, he⟩, zero_mul]
theorem ev_lcx (f : Nat → α) (y : α) {j : Nat} : ∀ k, (∀ i, i < k → i ≠ j → f i * y ≠ 1) → ev (lcx f j k) y ≠ 0
  | 0, _ => by
    show ev 1 y ≠ 0
    rw [ev_one]; exact Fd.one_ne
  | k + 1, h => by
    show ev (if k = j then lcx f j k else lcx f j k * fac (f k)) y ≠ 0
    have ih := ev_lcx f y k (fun i hi => h i (by omega))
    by_cases e : k = j
    · rw [if_pos e]; exact ih
    · rw [if_neg e, ev_mul, ev_fac]
      exact Fd.mul_ne ih fun g => h k (by omega) e (sub_eq_zero g).symm
theorem lcx_zero (f : Nat → α) (y : α) {j : Nat} : ∀ k i, i < k → i ≠ j → f i * y = 1 → ev (lcx f j k) y = 0
  | 0, i, h, _, _ => by omega
  | k + 1, i, h, hj, hy => by
    show ev (if k = j then lcx f j k else lcx f j k * fac (f k)) y = 0
    by_cases e : k = j
    · rw [if_pos e]; exact lcx_zero f y k i (by omega) hj hy
    · rw [if_neg e, ev_mul, ev_fac]
      by_cases e2 : i = k
      · subst e2; rw [hy, sub_self, mul_zero]
      · rw [lcx_zero f y k i (by omega) hj hy, zero_mul]
/-- The derivative of a locator. -/
theorem der_lcf (f : Nat → α) : ∀ k, der (lcf f k) = sm k (fun j => -c (f j) * lcx f j k)
  | 0 => by show der 1 = 0; rw [der_one]
  | k + 1 => by
    show der (lcf f k * fac (f k)) = _
    rw [der_mul _ _ _ (Nat.le_refl _), der_lcf f k, der_fac, sm_succ, sm_mul]
    congr 1
    · refine sm_congr fun j hj => ?_
      show _ = -c (f j) * (if k = j then lcx f j k else lcx f j k * fac (f k))
      rw [if_neg (by omega), mul_assoc]
    · show _ = -c (f k) * (if k = k then lcx f k k else lcx f k k * fac (f k))
      rw [if_pos rfl, lcx_far f k (Nat.le_refl _), mul_comm]
/-- The evaluator: the sum of the values times the products of the other factors. -/
noncomputable def evr (f v : Nat → α) (k : Nat) : Pl α := sm k (fun j => c (v j) * lcx f j k)
theorem evr_ln (f v : Nat → α) (k : Nat) : (evr f v k).ln ≤ k := by
  unfold evr
  have : ∀ n, n ≤ k → (sm n (fun j => c (v j) * lcx f j k)).ln ≤ k := by
    intro n
    induction n with
    | zero => intro _; rw [sm_zero, ln_zero]; omega
    | succ n ih =>
      intro hn
      rw [sm_succ]
      exact ln_add_le (ih (by omega)) (Nat.le_trans (ln_cmul_le _ _) (lcx_ln (j := n) f k (by omega)))
  exact this k (Nat.le_refl _)
/-- The value of a sum at the inverse of point number j: one term is left. -/
theorem ev_pick {f : Nat → α} {k j : Nat} (hj : j < k) {z : α} (hz : f j * z = 1) (w : Nat → α) : ev (sm k (fun i => c (w i) * lcx f i k)) z = w j * ev (lcx f j k) z := by
  rw [ev_sm, sm_one hj (fun i hi hne => ?_)]
  · rw [ev_mul, ev_c]
  · rw [ev_mul, lcx_zero f z k j hj (fun e => hne e.symm) hz, mul_zero]
/-- The power sums. -/
def synd (f v : Nat → α) (k : Nat) : PS α := ⟨fun i => sm k (fun j => v j * pw (f j) i)⟩
theorem synd_at (f v : Nat → α) (k i : Nat) : synd f v k i = sm k (fun j => v j * pw (f j) i) := rfl
/-- The factor of a point times its powers is 1. -/
theorem fac_geo (y : α) : (fac y).a * (⟨fun i => pw y i⟩ : PS α) = 1 := PS.ext fun i => by
  show ((1 - C y * X 1 : PS α) * (⟨fun i => pw y i⟩ : PS α)) i = _
  rw [sub_mul, one_mul, sub_at, mul_assoc, C_mul_at, X_mul_at, one_at]
  cases i with
  | zero => rw [if_pos (by omega), if_pos rfl, mul_zero, sub_zero]; rfl
  | succ i =>
    rw [if_neg (by omega), if_neg (by omega), Nat.add_sub_cancel]
    show pw y (i + 1) - y * pw y i = 0
    rw [pw_succ, mul_comm, sub_self]
/-- The key equation, as power series. -/
theorem key_synd (f v : Nat → α) (k : Nat) : (lcf f k).a * synd f v k = (evr f v k).a := by
  have e : synd f v k = sm k (fun j => C (v j) * (⟨fun i => pw (f j) i⟩ : PS α)) := PS.ext fun i => by
    rw [synd_at, sm_at]
    exact sm_congr fun j _ => by rw [C_mul_at]
  rw [e, mul_sm]
  unfold evr
  rw [sm_a]
  refine sm_congr fun j hj => ?_
  show _ = C (v j) * (lcx f j k).a
  rw [← lcx_mul f k hj, mul_a]
  have : (lcx f j k).a * (fac (f j)).a * (C (v j) * (⟨fun i => pw (f j) i⟩ : PS α)) = C (v j) * (lcx f j k).a * ((fac (f j)).a * (⟨fun i => pw (f j) i⟩ : PS α)) := by ac_rfl
  rw [this, fac_geo, mul_one]
/-- The formula of Forney. -/
theorem forney {f v : Nat → α} {k j : Nat} (hj : j < k) {z : α} (hz : f j * z = 1) (hd : ∀ i, i < k → i ≠ j → f i ≠ f j) :
    ev (der (lcf f k)) z = -f j * ev (lcx f j k) z ∧ ev (evr f v k) z = v j * ev (lcx f j k) z ∧ ev (lcx f j k) z ≠ 0 := by
  have hz0 : z ≠ 0 := fun e => Fd.one_ne (by rw [← hz, e, mul_zero])
  refine ⟨?_, ev_pick hj hz v, ev_lcx f z k fun i hi hne e => hd i hi hne (Fd.mul_right_cancel hz0 (e.trans hz.symm))⟩
  rw [der_lcf]
  have : (fun j => -c (f j) * lcx f j k) = (fun j => c (-f j) * lcx f j k) := funext fun i => by rw [c_neg]
  rw [this]
  exact ev_pick hj hz _
theorem lcf_split (f g : Nat → α) (m : Nat) : ∀ n, (∀ i, i < n → f (m + i) = g i) → lcf f (m + n) = lcf f m * lcf g n
  | 0, _ => by show lcf f m = lcf f m * 1; rw [mul_one]
  | n + 1, h => by
    show lcf f (m + n) * fac (f (m + n)) = lcf f m * (lcf g n * fac (g n))
    rw [lcf_split f g m n (fun i hi => h i (by omega)), h n (by omega), mul_assoc]
theorem lcf_congr {f g : Nat → α} : ∀ {k : Nat}, (∀ i, i < k → f i = g i) → lcf f k = lcf g k
  | 0, _ => rfl
  | k + 1, h => by
    show lcf f k * fac (f k) = lcf g k * fac (g k)
    rw [lcf_congr (k := k) (fun i hi => h i (by omega)), h k (by omega)]
/-- A divisor of a locator that is no constant vanishes at the inverse of one of the points. -/
theorem dvd_fac {y : α} {p q : Pl α} (hd : Dvd p (q * fac y)) (hy : ∀ z, y * z = 1 → ev p z ≠ 0) : Dvd p q := by
  by_cases h0 : y = 0
  · subst h0
    have e : fac (0 : α) = 1 := by unfold fac; rw [c_zero, zero_mul, sub_zero]
    rwa [e, mul_one] at hd
  · refine cop_dvd ?_ hd
    refine cop_of (fun e => fac_ne y e.2) fun d d1 d2 => ?_
    have h1 := dvd_ln d2 (fac_ne y)
    have h2 := fac_ln_le y
    refine Nat.le_of_not_lt fun g => ?_
    -- d is the factor times a constant
    obtain ⟨k, hk⟩ := d2
    have hkz : k ≠ 0 := fun e => fac_ne y (by rw [hk, e, zero_mul])
    have hdz : d ≠ 0 := fun e => fac_ne y (by rw [hk, e, mul_zero])
    have h3 := ln_mul hkz hdz
    rw [← hk] at h3
    have h4 := ln_pos hkz
    have h5 := of_ln_one (p := k) (by omega)
    have hk0 : k.a 0 ≠ 0 := fun e => hkz (by rw [h5, e, c_zero])
    have hz := mul_inv y h0
    obtain ⟨m, hm⟩ := d1
    refine hy (inv y) hz ?_
    have h6 := congrArg (fun q => ev q (inv y)) hk
    simp only [ev_mul, ev_fac, hz, sub_self] at h6
    rw [h5, ev_c] at h6
    rcases Fd.mul_eq_zero h6.symm with e | e
    · exact absurd e hk0
    · rw [hm, ev_mul, e, mul_zero]
theorem cop_lcf {f : Nat → α} {v : Pl α} : ∀ k, (∀ i, i < k → ∀ z, f i * z = 1 → ev v z ≠ 0) → Cop (lcf f k) v := fun k h => by
  refine cop_of (fun e => lcf_ne f k e.1) fun p d1 d2 => ?_
  obtain ⟨m, hm⟩ := d2
  have hp : ∀ i, i < k → ∀ z, f i * z = 1 → ev p z ≠ 0 := fun i hi z hz e => h i hi z hz (by rw [hm, ev_mul, e, mul_zero])
  clear h
  induction k with
  | zero =>
    have h1 : p.ln ≤ (1 : Pl α).ln := dvd_ln d1 one_ne
    rwa [ln_one] at h1
  | succ k ih => exact ih (dvd_fac d1 (hp k (by omega))) (fun i hi => hp i (by omega))

/-! ### Interpolation and the decoder of Gao -/
/-- Two polynomials that agree at the points are congruent modulo the product of the linear factors. -/
theorem cg_prf {f : Nat → α} {n : Nat} {p q : Pl α} (hf : ∀ i j, i < j → j < n → f i ≠ f j) (h : ∀ i, i < n → ev p (f i) = ev q (f i)) : Cg (prf f n) p q :=
  prf_dvd' n hf fun i hi => by rw [ev_sub, h i hi, sub_self]
theorem prf_cg {f : Nat → α} {n : Nat} {p q : Pl α} (h : Cg (prf f n) p q) : ∀ i, i < n → ev p (f i) = ev q (f i) := fun i hi => by
  obtain ⟨k, hk⟩ := h
  have := congrArg (fun r => ev r (f i)) hk
  simp only [ev_sub, ev_mul, (ev_prf f (f i) n).2 ⟨i, hi, rfl⟩, mul_zero] at this
  exact sub_eq_zero this
/-- The product of the linear factors of the points of a kind. -/
noncomputable def prs (f : Nat → α) (s : Nat → Bool) : Nat → Pl α
  | 0 => 1
  | k + 1 => if s k then prs f s k * lin (f k) else prs f s k
theorem prs_ne (f : Nat → α) (s : Nat → Bool) : ∀ k, prs f s k ≠ 0
  | 0 => one_ne
  | k + 1 => by
    show (if s k then prs f s k * lin (f k) else prs f s k) ≠ 0
    split
    · exact mul_ne (prs_ne f s k) (lin_ne _)
    · exact prs_ne f s k
/-- How many points are of the kind. -/
def cnt (s : Nat → Bool) : Nat → Nat
  | 0 => 0
  | k + 1 => cnt s k + if s k then 1 else 0
theorem prs_ln (f : Nat → α) (s : Nat → Bool) : ∀ k, (prs f s k).ln = cnt s k + 1
  | 0 => ln_one
  | k + 1 => by
    have h := prs_ln f s k
    show (if s k then prs f s k * lin (f k) else prs f s k).ln = cnt s k + (if s k then 1 else 0) + 1
    split
    · have := ln_mul (prs_ne f s k) (lin_ne (f k))
      rw [ln_lin] at this
      omega
    · omega
theorem ev_prs (f : Nat → α) (s : Nat → Bool) : ∀ k i, i < k → s i = true → ev (prs f s k) (f i) = 0
  | 0, i, h, _ => by omega
  | k + 1, i, h, hs => by
    show ev (if s k then prs f s k * lin (f k) else prs f s k) (f i) = 0
    by_cases e : i = k
    · subst e
      rw [if_pos hs, ev_mul, ev_lin, sub_self, mul_zero]
    · have ih := ev_prs f s k i (by omega) hs
      split
      · rw [ev_mul, ih, zero_mul]
      · exact ih
/-- What Gao's algorithm finds: where m has the right values at all but few points, the remainder is m times the factor. -/
theorem gao {f : Nat → α} {n k : Nat} {I b t m : Pl α} {s : Nat → Bool} (hf : ∀ i j, i < j → j < n → f i ≠ f j) (h : EuEnd (prf f n) I b t ((n : Int) + k)) (hk : k ≤ n) (hm : m.ln ≤ k)
    (hs : ∀ i, i < n → s i = false → ev m (f i) = ev I (f i)) (hc : 2 * cnt s n ≤ n - k) : b = m * t := by
  have hp := prf_ne f n
  have hl := ln_prf f n
  -- the error locator E: E I and E m agree at the points
  have hE : Cg (prf f n) (prs f s n * I) (prs f s n * m) := cg_prf hf fun i hi => by
    rw [ev_mul, ev_mul]
    cases e : s i
    · rw [hs i hi e]
    · rw [ev_prs f s n i hi e, zero_mul, zero_mul]
  have hl2 := prs_ln f s n
  have key : prs f s n * b = prs f s n * m * t := by
    obtain ⟨a, o, h1, h2, h3, h4⟩ := h.ex
    have h5 := h.small
    have e1 : Cg (prf f n) (prs f s n * b) (prs f s n * m * t) := by
      have g1 : Cg (prf f n) (prs f s n * b) (prs f s n * (t * I)) := cg_mul (cg_refl _ _) (cg_symm h.ta)
      have g2 := cg_mul (cg_refl (prf f n) t) hE
      rw [show prs f s n * (t * I) = t * (prs f s n * I) by ac_rfl] at g1
      rw [show prs f s n * m * t = t * (prs f s n * m) by ac_rfl]
      exact cg_trans g1 g2
    by_cases e : prs f s n * b - prs f s n * m * t = 0
    · exact sub_eq_zero e
    · exfalso
      have g1 := dvd_ln e1 e
      have g3 := ln_pos h.tn
      have g4 := ln_mul_le (prs f s n) b
      have g5 := ln_mul_le (prs f s n * m) t
      have g6 := ln_mul_le (prs f s n) m
      rw [hl] at g1 h3
      have g7 : (prs f s n * b - prs f s n * m * t).ln ≤ n := by
        refine ln_sub_le ?_ ?_
        · by_cases b0 : b = 0
          · rw [b0, mul_zero, ln_zero]; omega
          · have := ln_pos b0
            omega
        · by_cases m0 : m = 0
          · rw [m0, mul_zero, zero_mul, ln_zero]; omega
          · have := ln_pos m0
            omega
      omega
  rw [mul_assoc] at key
  exact mul_left_cancel (prs_ne f s n) key
end Pl
end Cw
