/- Powers in a finite field: Fermat's law and that of Frobenius. Plain algebra, no program in sight. No conditions. Powers by tables. Plain algebra, no program in sight. No conditions. The reference's sums, negatives and products are those of the field. Plain algebra, no program in sight. No conditions. Orders of elements by logarithms, how many there are of each, and powers by repeated products. Plain algebra, no program in sight. No conditions. Inverses and quotients by tables. Plain algebra, no program in sight. No conditions. -/
import Derived.Test.YtmakdclgpeochaaMcA
import Derived.Test.YtmakdclgpeochaaSpA
namespace Cw
open Rg Fd PS

section finite
variable {α : Type} [Fd α]
theorem fermat {l : List α} (hl : All l) {b : α} (hb : b ≠ 0) : pw b (l.length - 1) = 1 := by
  obtain ⟨g, g0, g1⟩ := cyclic hl
  obtain ⟨k, k1, k2, k3⟩ := hl.nz
  have hnd : ((List.range (l.length - 1)).map (pw g)).Nodup := by
    rw [List.nodup_iff_pairwise_ne, List.pairwise_map]
    refine List.Pairwise.imp_of_mem (R := fun x y => x < y) (fun {x y} hx hy hxy e => ?_) List.pairwise_lt_range
    have := pw_inj g0 g1 (List.mem_range.1 hx) (List.mem_range.1 hy) e
    omega
  have hmem : b ∈ (List.range (l.length - 1)).map (pw g) := by
    refine Classical.byContradiction fun hn => ?_
    have := nodup_sub (List.nodup_cons.2 ⟨hn, hnd⟩) (k := k) fun x hx => by
      rcases List.mem_cons.1 hx with e | e
      · rw [e]; exact (k2 b).2 hb
      · obtain ⟨i, _, rfl⟩ := List.mem_map.1 e
        exact (k2 _).2 (pw_ne g0 i)
    simp at this
    omega
  obtain ⟨i, _, rfl⟩ := List.mem_map.1 hmem
  rw [← pw_mul, Nat.mul_comm, pw_mul, g1.2.1, one_pw]
theorem fermat' {l : List α} (hl : All l) (b : α) : pw b l.length = b := by
  have hpos : 1 ≤ l.length := List.length_pos_of_mem (hl.all 0)
  by_cases hb : b = 0
  · rw [hb, zero_pw (by omega)]
  · have := fermat hl hb
    rw [show l.length = l.length - 1 + 1 by omega, pw_succ, this, one_mul]

/-- The power of a polynomial. -/
theorem dl_pw {a : PS α} {n : Nat} (ha : dl a (n + 1)) : ∀ k, dl (pw a k) (n * k + 1)
  | 0 => dl_one
  | k + 1 => dl_mul' (dl_pw ha k) ha (by rw [Nat.mul_succ]; omega)
theorem ev_pw {a : PS α} {n : Nat} (ha : dl a (n + 1)) (x : α) : ∀ k, ev (n * k + 1) (pw a k) x = pw (ev (n + 1) a x) k
  | 0 => ev_one (by omega) x
  | k + 1 => by
    rw [pw_succ, pw_succ, ev_mul (dl_pw ha k) ha (by rw [Nat.mul_succ]; omega), ev_pw ha x k]
theorem pw_top {a : PS α} (ha : dl a 2) (h1 : a 1 = 1) : ∀ k, (pw a k) k = 1
  | 0 => by rw [pw_zero, one_at, if_pos rfl]
  | k + 1 => by
    have := mul_top (m := k) (n := 1) (a := pw a k) (b := a) (dl_mono (dl_pw (n := 1) ha k) (by omega)) ha
    rw [pw_succ, this, pw_top ha h1 k, h1, one_mul]
/-- Where p elements are their own p-th powers, p-th powers are additive. -/
theorem frob {l : List α} {p : Nat} (hp : 1 ≤ p) (hl : l.Nodup) (hlen : l.length = p) (h : ∀ x ∈ l, pw x p = x) (h1 : ∀ x ∈ l, pw (x + 1) p = x + 1) (x y : α) : pw (x + y) p = pw x p + pw y p := by
  have hX : dl (X 1 + C 1 : PS α) 2 := dl_add (dl_X 1) (dl_mono (dl_C 1) (by omega))
  have hX1 : (X 1 + C 1 : PS α) 1 = 1 := by rw [add_at, X_at, C_at, if_pos rfl, if_neg (by omega), add_zero]
  obtain ⟨f, hf⟩ : ∃ f, f = pw (X 1 + C 1 : PS α) p - X p - C 1 := ⟨_, rfl⟩
  have d1 : dl f (p + 1) := by
    rw [hf]
    exact dl_sub (dl_sub (dl_mono (dl_pw (n := 1) hX p) (by omega)) (dl_X p)) (dl_mono (dl_C 1) (by omega))
  have e1 : ∀ t, ev (p + 1) f t = pw (t + 1) p - pw t p - 1 := fun t => by
    rw [hf, ev_sub, ev_sub, ev_X (by omega), ev_C (by omega)]
    have := ev_pw (n := 1) hX t p
    rw [show 1 * p + 1 = p + 1 by omega] at this
    rw [this, ev_add, ev_X (by omega), ev_C (by omega), pw_one]
  have d2 : dl f p := dl_pred d1 (by
    rw [hf, sub_at, sub_at, pw_top hX hX1, X_at, if_pos rfl, C_at, if_neg (by omega), sub_self, sub_zero])
  have hf0 : f = 0 := by
    refine Classical.byContradiction fun hn => ?_
    have := roots_le d2 hn hl fun t ht => by
      rw [ev_eq t d2 d1, e1, h t ht, h1 t ht, sub_def, sub_def]
      have : t + 1 + -t + -1 = (t + -t) + (1 + -1) := by ac_rfl
      rw [this, add_neg, add_neg, add_zero]
    omega
  have key : ∀ t : α, pw (t + 1) p = pw t p + 1 := fun t => by
    have := e1 t
    rw [hf0, ev_zero] at this
    have h2 := sub_eq_zero this.symm
    have h3 := congrArg (· + pw t p) h2
    simp only [sub_add_cancel] at h3
    rw [h3, add_comm]
  by_cases hy : y = 0
  · rw [hy, add_zero, zero_pw (by omega), add_zero]
  · have e : x + y = (x * inv y + 1) * y := by rw [add_mul, one_mul, mul_assoc, inv_mul hy, mul_one]
    rw [e, mul_pw, key, add_mul, one_mul, ← mul_pw, mul_assoc, inv_mul hy, mul_one]
end finite
end Cw
namespace Cw
open Rg Fd PS

namespace Zp
variable {R : PrS}
theorem all (R : PrS) : ∃ l : List (Zp R), All l ∧ l.length = R.p.toNat := by
  have h2 := R.two
  refine ⟨(List.range R.p.toNat).map fun i : Nat => mk' R i, ⟨?_, fun a => ?_⟩, by simp⟩
  · rw [List.nodup_iff_pairwise_ne, List.pairwise_map]
    refine List.Pairwise.imp_of_mem (R := fun x y => x < y) (fun {x y} hx hy hxy e => ?_) List.pairwise_lt_range
    have h1 := List.mem_range.1 hx
    have h2 := List.mem_range.1 hy
    have := mk_eq.1 e
    rw [Int.emod_eq_of_lt (by omega) (by omega), Int.emod_eq_of_lt (by omega) (by omega)] at this
    omega
  · have h0 := a.lo
    have h1 := a.hi
    exact List.mem_map.2 ⟨a.v.toNat, List.mem_range.2 (by omega), by rw [Int.toNat_of_nonneg h0, mk_of]⟩
end Zp

namespace FS
/-- A constant. -/
def cst (S : FS) (z : Zp S.R) : Rs S.mon := ⟨C z, dl_mono (dl_C z) S.hm⟩
theorem cst_one (S : FS) : S.cst 1 = 1 := rfl
theorem cst_mul (S : FS) (a b : Zp S.R) : S.cst (a * b) = S.cst a * S.cst b := (Rs.mul_eq (by show Rs.Cg S.mon (C a * C b) (C (a * b)); rw [C_mul]; exact Rs.cg_refl _)).symm
theorem cst_add (S : FS) (a b : Zp S.R) : S.cst (a + b) = S.cst a + S.cst b := Rs.ext (C_add a b)
theorem cst_inj (S : FS) {a b : Zp S.R} (h : S.cst a = S.cst b) : a = b := by
  have := congrArg (fun r : Rs S.mon => r.a 0) h
  simpa [cst, C_at] using this
theorem cst_pw (S : FS) (a : Zp S.R) (n : Nat) : S.cst (pw a n) = pw (S.cst a) n := by
  induction n with
  | zero => rfl
  | succ n ih => rw [pw_succ, cst_mul, ih, pw_succ]
theorem frob (S : FS) (hi : Rs.Irr S.mon) (x y : Rs S.mon) : pw (x + y) S.P.toNat = pw x S.P.toNat + pw y S.P.toNat := by
  obtain ⟨l, l1, l2⟩ := Zp.all S.R
  have l2' : l.length = S.P.toNat := l2
  have hf : ∀ z : Zp S.R, pw (S.cst z) S.P.toNat = S.cst z := fun z => by
    rw [← cst_pw, ← l2', fermat' l1]
  have hp := S.pr.1
  refine Cw.frob (α := Rs (S.imon hi).F) (l := l.map S.cst) (p := S.P.toNat) (by omega) ?_ ((List.length_map (f := S.cst) (as := l)).trans l2') (fun z hz => ?_) (fun z hz => ?_) x y
  · have h3 := l1.nd
    rw [List.nodup_iff_pairwise_ne] at h3
    show (l.map S.cst).Nodup
    rw [List.nodup_iff_pairwise_ne, List.pairwise_map]
    exact h3.imp fun hab e => hab (S.cst_inj e)
  · obtain ⟨a, _, rfl⟩ := List.mem_map.1 hz
    exact hf a
  · obtain ⟨a, _, rfl⟩ := List.mem_map.1 hz
    have := hf (a + 1)
    rw [cst_add, cst_one] at this
    exact this
end FS

namespace Tabs
variable {G : GFd}
theorem frob (h : Tabs G) (x y : Rs h.fs.mon) : pw (x + y) G.P.toNat = pw x G.P.toNat + pw y G.P.toNat := h.fs.frob h.irr x y
theorem e_fermat (h : Tabs G) {x : Int} (hx : inn G.q x ≠ 0) : pw (h.e x) (G.q.toNat - 1) = 1 := by
  obtain ⟨g, g1, _, g3⟩ := h.e_exp
  rw [(g3 x hx).2.2, ← pw_mul, Nat.mul_comm, pw_mul, g1, one_pw]
/-- The power. -/
theorem e_pow (h : Tabs G) {x : Int} (hx : inn G.q x ≠ 0) (n : Int) : h.e (powG G x n) = pw (h.e x) (n % (G.q - 1)).toNat := by
  obtain ⟨g, g1, g2, g3⟩ := h.e_exp
  obtain ⟨q1, q2, _⟩ := h.qb
  obtain ⟨a0, a1, a2⟩ := g3 x hx
  have m0 := Int.emod_nonneg n (show G.q - 1 ≠ 0 by omega)
  unfold powG
  rw [g2 _ (Int.mul_nonneg a0 m0), a2, ← pw_mul, Int.toNat_mul a0 m0]
theorem e_pow_nat (h : Tabs G) {x : Int} (hx : inn G.q x ≠ 0) (n : Nat) : h.e (powG G x n) = pw (h.e x) n := by
  obtain ⟨q1, q2, _⟩ := h.qb
  rw [h.e_pow hx, pw_mod (h.e_fermat hx) n]
  congr 1
  have : G.q - 1 = ((G.q.toNat - 1 : Nat) : Int) := by omega
  rw [this, ← Int.natCast_emod, Int.toNat_natCast]
theorem pow_bd (h : Tabs G) (x n : Int) : 0 ≤ powG G x n ∧ powG G x n < G.q ∧ powG G x n ≠ 0 := h.exp_bd _
end Tabs
end Cw
namespace Cw
open Rg Fd PS
/-- The power with a positive exponent, of 0 too. -/
def powZ (G : GFd) (x n : Int) : Int := if inn G.q x = 0 then 0 else powG G x n
namespace Tabs
variable {G : GFd}
theorem powZ_bd (h : Tabs G) (x n : Int) : 0 ≤ powZ G x n ∧ powZ G x n < G.q := by
  unfold powZ
  split
  · have := h.qb; omega
  · have := h.pow_bd x n; omega
theorem e_powZ (h : Tabs G) (x : Int) {n : Int} (hn : 0 < n) : h.e (powZ G x n) = pw (h.e x) n.toNat := by
  unfold powZ
  split
  · rename_i hx
    rw [h.e_nz.2 hx, e_zero, zero_pw (by omega)]
  · rename_i hx
    have := h.e_pow_nat hx n.toNat
    rwa [Int.toNat_of_nonneg (by omega)] at this
/-- The law of Frobenius. -/
theorem frobZ (h : Tabs G) (x y : Int) : powZ G (addG G x y) G.P = addG G (powZ G x G.P) (powZ G y G.P) := by
  have hP : 0 < G.P := by have := h.qb; omega
  refine h.e_eq (h.powZ_bd _ _) (h.add_bd _ _) ?_
  rw [e_add, h.e_powZ _ hP, h.e_powZ _ hP, h.e_powZ _ hP, e_add, h.frob]
theorem fermatZ (h : Tabs G) (x : Int) : powZ G x G.q = inn G.q x := by
  have hq : 0 < G.q := by have := h.qb; omega
  refine h.e_eq (h.powZ_bd _ _) (inn_bd hq x) ?_
  rw [h.e_powZ _ hq, e_inn]
  by_cases hx : inn G.q x = 0
  · rw [h.e_nz.2 hx, zero_pw (by omega)]
  · rw [show G.q.toNat = G.q.toNat - 1 + 1 by omega, pw_succ, h.e_fermat hx, one_mul]
end Tabs
end Cw
namespace Cw
open Rg Fd PS

namespace FS
theorem getD_none {l : List Int} {i : Nat} (h : l.length ≤ i) : l.getD i 0 = 0 := by rw [List.getD_eq_getElem?_getD, List.getElem?_eq_none h]; rfl
theorem pol_set (S : FS) {c : List Int} {i : Nat} (x : Int) (h : i < c.length) : S.pol (c.set i (x % S.P)) = S.pol c + C (Zp.mk' S.R x - Zp.mk' S.R (c.getD i 0)) * X i := PS.ext fun k => by
  rw [add_at, C_mul_at, X_at, pol_at, pol_at]
  by_cases e : k = i
  · subst e
    rw [if_pos rfl, mul_one, List.getD, List.getElem?_set_self h, Option.getD_some, mk_mod]
    rw [sub_def]
    have : Zp.mk' S.R (c.getD k 0) + (Zp.mk' S.R x + -Zp.mk' S.R (c.getD k 0)) = Zp.mk' S.R x + (Zp.mk' S.R (c.getD k 0) + -Zp.mk' S.R (c.getD k 0)) := by ac_rfl
    rw [this, add_neg, add_zero]
  · rw [if_neg e, mul_zero, add_zero, List.getD, List.getElem?_set_ne (fun h => e h.symm)]; rfl
theorem pol_cvStep (S : FS) (a b : List Int) {i j : Nat} {c : List Int} (h : i + j < c.length) : S.pol (cvStep S.P a b i j c) = S.pol c + C (S.pol a i) * X i * (C (S.pol b j) * X j) := by
  unfold cvStep
  rw [pol_set S _ h, ← Zp.mk_add, ← Zp.mk_mul]
  have e : Zp.mk' S.R (c.getD (i + j) 0) + Zp.mk' S.R (a.getD i 0) * Zp.mk' S.R (b.getD j 0) - Zp.mk' S.R (c.getD (i + j) 0) = S.pol a i * S.pol b j := by
    rw [add_comm, add_sub_cancel]; rfl
  rw [e, C_mul, X_add]
  congr 1
  ac_rfl
theorem pol_cvRow (S : FS) (a b : List Int) {i : Nat} {c : List Int} : ∀ n, i + n ≤ c.length → S.pol (cvRow S.P a b i c n) = S.pol c + C (S.pol a i) * X i * sm n (fun j => C (S.pol b j) * X j)
  | 0, _ => by rw [cvRow, sm_zero, mul_zero, add_zero]
  | n + 1, h => by rw [cvRow, pol_cvStep S a b (by rw [length_cvRow]; omega), pol_cvRow S a b n (by omega), sm_succ, mul_add, add_assoc]
theorem pol_cvAll (S : FS) {a b : List Int} {c : List Int} (hb : b.length ≤ S.m) : ∀ n, n + S.m ≤ c.length + 1 → S.pol (cvAll S.P S.m a b c n) = S.pol c + sm n (fun i => C (S.pol a i) * X i) * S.pol b
  | 0, _ => by rw [cvAll, sm_zero, zero_mul, add_zero]
  | n + 1, h => by
    rw [cvAll, pol_cvRow S a b S.m (by rw [length_cvAll]; omega), pol_cvAll S hb n (by omega), ← sum_X (S.pol_dl hb), sm_succ, add_mul, add_assoc]
theorem pol_zeros (S : FS) (n : Nat) : S.pol (List.replicate n 0) = 0 := PS.ext fun i => by
  rw [pol_at, zero_at]
  by_cases h : i < n
  · simp [h, Zp.mk_zero]
  · rw [getD_none (by simp; omega)]; rfl
theorem pol_conv (S : FS) {a b : List Int} (ha : a.length ≤ S.m) (hb : b.length ≤ S.m) : S.pol (cvAll S.P S.m a b (List.replicate (2 * S.m - 1) 0) S.m) = S.pol a * S.pol b := by
  have hm := S.hm
  rw [pol_cvAll S hb S.m (by simp; omega), pol_zeros, zero_add, ← sum_X (S.pol_dl ha)]
theorem rdRow_at (p : Int) {m : Nat} (mod : List Int) {i : Nat} (c : List Int) (hmi : m ≤ i) (hi : i < c.length) {k : Nat} (hk : k < c.length) : ∀ n, n ≤ m →
    (rdRow p m mod i c n).getD k 0 = if i - m ≤ k ∧ k < i - m + n then (c.getD k 0 + (p - c.getD i 0) * mod.getD (k - (i - m)) 0) % p else c.getD k 0
  | 0, _ => by rw [if_neg (by omega)]; rfl
  | n + 1, h => by
    have ih := rdRow_at p mod c hmi hi hk n (by omega)
    have ii : (rdRow p m mod i c n).getD i 0 = c.getD i 0 := by
      rw [rdRow_at p mod c hmi hi hi n (by omega), if_neg (by omega)]
    rw [rdRow, rdStep]
    by_cases e : i - m + n = k
    · rw [if_neg (by omega)] at ih
      rw [if_pos (by omega), List.getD, e, List.getElem?_set_self (by rw [length_rdRow]; exact hk), Option.getD_some, ii, ih, show k - (i - m) = n by omega]
    · rw [List.getD, List.getElem?_set_ne e]
      by_cases h2 : i - m ≤ k ∧ k < i - m + n
      · rw [if_pos h2] at ih; rw [if_pos (by omega)]; exact ih
      · rw [if_neg h2] at ih; rw [if_neg (by omega)]; exact ih
theorem take_at (c : List Int) (n i : Nat) : (c.take n).getD i 0 = if i < n then c.getD i 0 else 0 := by
  by_cases h : i < n
  · rw [if_pos h, List.getD, List.getElem?_take_of_lt h]; rfl
  · rw [if_neg h, getD_none (by simp; omega)]
theorem pol_rdRow (S : FS) {i : Nat} {c : List Int} (h1 : 1 < S.m) (hmi : S.m ≤ i) (hi : i < c.length) :
    S.pol ((rdRow S.P S.m S.mod i c S.m).take i) = S.pol (c.take (i + 1)) - C (S.pol c i) * (X (i - S.m) * S.mon.f) := PS.ext fun k => by
  rw [sub_at, C_mul_at, X_mul_at, pol_at, pol_at, take_at, take_at, mon_at]
  rcases Nat.lt_trichotomy k i with h | h | h
  · rw [if_pos h, if_pos (by omega), rdRow_at S.P S.mod c hmi hi (by omega) S.m (Nat.le_refl _)]
    by_cases h2 : k < i - S.m
    · rw [if_neg (by omega), if_pos h2, mul_zero, sub_zero]
    · rw [if_pos (by omega), if_neg h2, if_neg (by omega), if_pos (by omega), mk_mod, ← Zp.mk_add, ← Zp.mk_mul, ← Zp.mk_sub]
      have e0 : Zp.mk' S.R S.P = 0 := Zp.mk_p (R := S.R)
      rw [e0, zero_sub, neg_mul, ← sub_def]
      unfold low
      rw [if_pos h1]
      rfl
  · subst h
    rw [if_neg (by omega), if_pos (by omega), if_neg (by omega), if_pos (by omega), mul_one, pol_at, sub_self]; rfl
  · rw [if_neg (by omega), if_neg (by omega), if_neg (by omega), if_neg (by omega), if_neg (by omega), mul_zero, sub_zero]
theorem cg_rdAll (S : FS) {c : List Int} (hc : c.length = 2 * S.m - 1) : ∀ n, n ≤ S.m - 1 → Rs.Cg S.mon (S.pol ((rdAll S.P S.m S.mod c n).take (2 * S.m - 1 - n))) (S.pol c)
  | 0, _ => by
    rw [rdAll, List.take_of_length_le (by omega)]
    exact Rs.cg_refl _
  | n + 1, h => by
    have ih := cg_rdAll S hc n (by omega)
    rw [rdAll, show 2 * S.m - 1 - (n + 1) = 2 * S.m - 2 - n by omega, pol_rdRow S (by omega) (by omega) (by rw [length_rdAll]; omega), show 2 * S.m - 2 - n + 1 = 2 * S.m - 1 - n by omega]
    refine Rs.cg_trans ?_ ih
    have h2 := Rs.cg_mul_left (F := S.mon) (C (S.pol (rdAll S.P S.m S.mod c n) (2 * S.m - 2 - n)) * X (2 * S.m - 2 - n - S.m)) (dl_Cmul _ (dl_X _)) Rs.cg_self
    rw [mul_zero, mul_assoc] at h2
    have h3 := Rs.cg_add (Rs.cg_refl (S.pol ((rdAll S.P S.m S.mod c n).take (2 * S.m - 1 - n)))) (Rs.cg_neg h2)
    rw [neg_zero, add_zero, ← sub_def] at h3
    exact h3
/-- The reference's product is that of the residues. -/
theorem el_rMul (S : FS) (x y : Int) : S.el (valL S.P (rMulL S.P S.m S.mod (digL S.P x S.m) (digL S.P y S.m))) = S.el x * S.el y := by
  have hm := S.hm
  refine (Rs.mul_eq (Rs.cg_symm ?_)).symm
  rw [el_mk S (rMulL_digs S.pos _ _ _ _) (rMulL_len _ _ _ _ _ hm)]
  have h := cg_rdAll S (c := cvAll S.P S.m (digL S.P x S.m) (digL S.P y S.m) (List.replicate (2 * S.m - 1) 0) S.m) (by rw [length_cvAll, List.length_replicate]) (S.m - 1) (Nat.le_refl _)
  rw [show 2 * S.m - 1 - (S.m - 1) = S.m by omega, pol_conv S (by rw [length_digL]; exact Nat.le_refl _) (by rw [length_digL]; exact Nat.le_refl _)] at h
  exact h
theorem rMul_mulS (S : FS) (x y : Int) : valL S.P (rMulL S.P S.m S.mod (digL S.P x S.m) (digL S.P y S.m)) = mulS S.P S.m S.mod x y := by
  have hb := valL_bd S.pos (rMulL_digs S.pos S.m S.mod (digL S.P x S.m) (digL S.P y S.m))
  rw [rMulL_len _ _ _ _ _ S.hm] at hb
  exact S.el_inj hb (S.mul_bd x y) (by rw [el_rMul, el_mul])
end FS

theorem valL_adL {P : Int} (hP : 0 < P) (m : Nat) (x y : Int) : valL P (adL P (digL P x m) (digL P y m) m) = addD P m x y := by
  have hd : Digs P (adL P (digL P x m) (digL P y m) m) := digs_adL hP _ (digs_digL hP m) m
  have hl : (adL P (digL P x m) (digL P y m) m).length = m := by rw [length_adL, length_digL]
  obtain ⟨b0, b1⟩ := addD_bd hP m x y
  have e : adL P (digL P x m) (digL P y m) m = digL P (addD P m x y) m := List.ext_getElem (by rw [hl, length_digL]) fun i h1 h2 => by
    have hi : i < m := by omega
    have k1 := adL_at P (digL P x m) (digL P y m) m i (by rw [length_digL]; exact hi)
    rw [if_pos hi, digL_at hi, digL_at hi, ← dgt_addD hP m x y i hi] at k1
    simp only [List.getD, List.getElem?_eq_getElem h1, Option.getD_some] at k1
    rw [k1]
    simp [digL]
  rw [e, valL_digL hP m _ b0 b1]
theorem valL_ngL {P : Int} (hP : 0 < P) (m : Nat) (x : Int) : valL P (ngL P (digL P x m) m) = negD P m x := by
  have hl : (ngL P (digL P x m) m).length = m := by rw [length_ngL, length_digL]
  obtain ⟨b0, b1⟩ := negD_bd hP m x
  have e : ngL P (digL P x m) m = digL P (negD P m x) m := List.ext_getElem (by rw [hl, length_digL]) fun i h1 h2 => by
    have hi : i < m := by omega
    have k1 := ngL_at P (digL P x m) m i (by rw [length_digL]; exact hi)
    have k2 : (P - dgt P x i) % P = -dgt P x i % P := by rw [show P - dgt P x i = -dgt P x i + P * 1 by omega, Int.add_mul_emod_self_left]
    rw [if_pos hi, digL_at hi, k2, ← dgt_negD hP m x i hi] at k1
    simp only [List.getD, List.getElem?_eq_getElem h1, Option.getD_some] at k1
    rw [k1]
    simp [digL]
  rw [e, valL_digL hP m _ b0 b1]
end Cw
namespace Cw
open Rg Fd PS

/-- The order of a power. -/
theorem ord_pow {α : Type} [Rg α] {a : α} {N l : Nat} (h : Ord a N) : Ord (pw a l) (N / Nat.gcd N l) := by
  have hN := h.1
  have hd : 0 < Nat.gcd N l := Nat.gcd_pos_of_pos_left _ hN
  obtain ⟨n', l', hc, e1, e2⟩ := Nat.exists_coprime N l
  obtain ⟨d, hdd⟩ : ∃ d, d = Nat.gcd N l := ⟨_, rfl⟩
  rw [← hdd] at hd e1 e2 ⊢
  have en : N / d = n' := by rw [e1, Nat.mul_div_cancel _ hd]
  rw [en]
  have hn' : 1 ≤ n' := by
    rcases Nat.eq_zero_or_pos n' with e | e
    · rw [e, Nat.zero_mul] at e1; omega
    · exact e
  refine ⟨hn', ?_, fun k k1 k2 e => ?_⟩
  · rw [← pw_mul, ord_dvd h]
    exact ⟨l', by rw [e1, e2]; ac_rfl⟩
  · rw [← pw_mul, ord_dvd h, e1, e2] at e
    obtain ⟨c, hc'⟩ := e
    have h2 : n' ∣ l' * k := ⟨c, Nat.eq_of_mul_eq_mul_left hd (by
      have a1 : d * (l' * k) = l' * d * k := by ac_rfl
      have a2 : d * (n' * c) = n' * d * c := by ac_rfl
      rw [a1, a2, hc'])⟩
    have h3 := Nat.Coprime.dvd_of_dvd_mul_left hc h2
    have := Nat.le_of_dvd k1 h3
    omega

/-- The order, by the logarithm. -/
def ordG (G : GFd) (x : Int) : Nat := (G.q.toNat - 1) / Nat.gcd (G.q.toNat - 1) (logG G (inn G.q x)).toNat
/-- Repeated products. -/
def rpG (G : GFd) (x : Int) : Nat → Int
  | 0 => 1
  | n + 1 => mulG G (rpG G x n) x

namespace Tabs
variable {G : GFd}
theorem e_gen (h : Tabs G) : ∃ g : Rs h.fs.mon, Ord g (G.q.toNat - 1) ∧ (∀ x, inn G.q x ≠ 0 → h.e x = pw g (logG G (inn G.q x)).toNat) := by
  obtain ⟨g, g1, g2, g3⟩ := h.e_exp
  obtain ⟨q1, q2, _⟩ := h.qb
  refine ⟨g, ⟨by omega, g1, fun k k1 k2 e => ?_⟩, fun x hx => (g3 x hx).2.2⟩
  have b1 := h.exp_bd (k : Int)
  have b0 := h.exp_bd 0
  have e2 : expG G (k : Int) = expG G 0 := h.e_eq ⟨b1.1, b1.2.1⟩ ⟨b0.1, b0.2.1⟩ (by
    rw [g2 _ (by omega), g2 _ (by omega)]
    simpa [pw_zero] using e)
  have hl := h.elen
  unfold expG at e2
  rw [Int.emod_eq_of_lt (by omega) (by omega), Int.emod_eq_of_lt (by omega) (by omega)] at e2
  have := nodup_getD h.end' (i := (k : Int).toNat) (j := (0 : Int).toNat) (by omega) (by simp; omega) e2
  simp at this
  omega
theorem ord_e (h : Tabs G) {x : Int} (hx : inn G.q x ≠ 0) : Ord (h.e x) (ordG G x) := by
  obtain ⟨g, g1, g2⟩ := h.e_gen
  rw [g2 x hx]
  exact ord_pow g1
theorem ord_dvd' (_h : Tabs G) (x : Int) : ordG G x ∣ G.q.toNat - 1 := Nat.div_dvd_of_dvd (Nat.gcd_dvd_left _ _)
theorem ord_pos (h : Tabs G) (x : Int) : 1 ≤ ordG G x := by
  have hN : 1 ≤ G.q.toNat - 1 := by have := h.qb; omega
  exact Nat.pos_of_dvd_of_pos (h.ord_dvd' x) hN
theorem ord_le (_h : Tabs G) (x : Int) : ordG G x ≤ G.q.toNat - 1 := Nat.div_le_self _ _
theorem rp_bd (h : Tabs G) (x : Int) : ∀ n, 0 ≤ rpG G x n ∧ rpG G x n < G.q
  | 0 => by have := h.qb; exact ⟨by show (0 : Int) ≤ 1; omega, by show (1 : Int) < G.q; omega⟩
  | n + 1 => h.mul_bd _ _
theorem e_rp (h : Tabs G) (x : Int) : ∀ n, h.e (rpG G x n) = pw (h.e x) n
  | 0 => h.e_one
  | n + 1 => by rw [rpG, e_mul, e_rp h x n, pw_succ]
theorem rp_one (h : Tabs G) (x : Int) : rpG G x 1 = inn G.q x := h.e_eq (h.rp_bd x 1) (inn_bd (by have := h.qb; omega) x) (by rw [e_rp, pw_one, e_inn])
theorem rp_inn (h : Tabs G) (x : Int) : ∀ n, rpG G (inn G.q x) n = rpG G x n := fun n => h.e_eq (h.rp_bd _ n) (h.rp_bd _ n) (by rw [e_rp, e_rp, e_inn])
/-- Among the first powers, 1 is the last. -/
theorem rp_one_iff (h : Tabs G) {x : Int} (hx : inn G.q x ≠ 0) {n : Nat} (h1 : 1 ≤ n) (h2 : n ≤ ordG G x) : rpG G x n = 1 ↔ n = ordG G x := by
  have ho := h.ord_e hx
  have q1 := h.qb
  constructor
  · intro e
    have e2 : pw (h.e x) n = 1 := by rw [← h.e_rp, e, e_one]
    rcases Nat.lt_or_ge n (ordG G x) with g | g
    · exact absurd e2 (ho.2.2 n h1 g)
    · omega
  · rintro rfl
    exact h.e_eq (h.rp_bd _ _) ⟨by omega, by omega⟩ (by rw [e_rp, ho.2.1, e_one])
theorem rp_pow (h : Tabs G) {x : Int} (hx : inn G.q x ≠ 0) (n : Int) : rpG G x (n % (G.q - 1)).toNat = powG G x n := by
  have b := h.pow_bd x n
  exact h.e_eq (h.rp_bd _ _) ⟨b.1, b.2.1⟩ (by rw [e_rp, h.e_pow hx])

/-- The logarithms of all elements but 0 are all exponents. -/
theorem log_perm (h : Tabs G) : List.Perm ((List.range (G.q.toNat - 1)).map fun i : Nat => (logG G (((i + 1 : Nat) : Int))).toNat) (List.range (G.q.toNat - 1)) := by
  obtain ⟨q1, q2, _⟩ := h.qb
  have hinn : ∀ i : Nat, i < G.q.toNat - 1 → inn G.q ((i + 1 : Nat) : Int) = ((i + 1 : Nat) : Int) := fun i hi => inn_yes (by omega)
  have hel := h.elen
  have hnd : ((List.range (G.q.toNat - 1)).map fun i : Nat => (logG G (((i + 1 : Nat) : Int))).toNat).Nodup := by
    rw [List.nodup_iff_pairwise_ne, List.pairwise_map]
    refine List.Pairwise.imp_of_mem (R := fun x y => x < y) (fun {x y} hx hy hxy e => ?_) List.pairwise_lt_range
    have hx' := List.mem_range.1 hx
    have hy' := List.mem_range.1 hy
    obtain ⟨i, i1, i2, i3⟩ := h.logOf (z := ((x + 1 : Nat) : Int)) (by omega) (by omega)
    obtain ⟨j, j1, j2, j3⟩ := h.logOf (z := ((y + 1 : Nat) : Int)) (by omega) (by omega)
    unfold logG at e
    rw [i3, j3] at e
    have : i = j := by omega
    rw [this] at i2
    rw [i2] at j2
    omega
  refine (List.perm_ext_iff_of_nodup hnd List.nodup_range).2 fun l => ⟨fun hl => ?_, fun hl => ?_⟩
  · obtain ⟨i, hi, rfl⟩ := List.mem_map.1 hl
    have hi' := List.mem_range.1 hi
    have := h.log_bd (z := ((i + 1 : Nat) : Int)) (by omega) (by omega)
    refine List.mem_range.2 ?_
    unfold logG
    omega
  · have hl' := List.mem_range.1 hl
    have hb := h.ebd (G.exp.getD l 0) (by simp only [List.getD, List.getElem?_eq_getElem (show l < G.exp.length by omega), Option.getD_some]; exact List.getElem_mem _)
    have := h.log l (by omega)
    refine List.mem_map.2 ⟨(G.exp.getD l 0).toNat - 1, List.mem_range.2 (by omega), ?_⟩
    have e : (((G.exp.getD l 0).toNat - 1 + 1 : Nat) : Int) = G.exp.getD l 0 := by omega
    rw [e]
    unfold logG
    omega
end Tabs

/-- Multiples of d below n * d. -/
theorem countP_mul (Q : Nat → Bool) {d : Nat} (hd : 0 < d) : ∀ n, (List.range (n * d)).countP (fun l => decide (l % d = 0) && Q (l / d)) = (List.range n).countP Q
  | 0 => by simp
  | n + 1 => by
    rw [Nat.succ_mul, List.range_add, List.countP_append, countP_mul Q hd n, List.range_succ, List.countP_append, List.countP_map]
    congr 1
    obtain ⟨e, rfl⟩ : ∃ e, d = e + 1 := ⟨d - 1, by omega⟩
    rw [List.range_succ_eq_map, List.countP_cons, List.countP_map, List.countP_singleton]
    have h0 : List.countP ((((fun l => decide (l % (e + 1) = 0) && Q (l / (e + 1))) ∘ fun x => n * (e + 1) + x)) ∘ Nat.succ) (List.range e) = 0 := by
      rw [List.countP_eq_zero]
      intro a ha
      have ha' := List.mem_range.1 ha
      have : (n * (e + 1) + (a + 1)) % (e + 1) = a + 1 := by
        rw [Nat.mul_comm, Nat.mul_add_mod, Nat.mod_eq_of_lt (by omega)]
      simp [Function.comp, this]
    rw [h0, Nat.zero_add]
    simp [Function.comp, Nat.mul_div_cancel _ hd]
theorem countP_shift (n : Nat) : (List.range n).countP (fun i => decide (Nat.gcd n i = 1)) = (List.range n).countP (fun i => decide (Nat.gcd (i + 1) n = 1)) := by
  have e1 : (List.range (n + 1)).countP (fun i => decide (Nat.gcd n i = 1)) = (List.range n).countP (fun i => decide (Nat.gcd n i = 1)) + (if n = 1 then 1 else 0) := by
    rw [List.range_succ, List.countP_append, List.countP_singleton]
    simp
  have e2 : (List.range (n + 1)).countP (fun i => decide (Nat.gcd n i = 1)) = (List.range n).countP (fun i => decide (Nat.gcd (i + 1) n = 1)) + (if n = 1 then 1 else 0) := by
    rw [List.range_succ_eq_map, List.countP_cons, List.countP_map]
    congr 1
    · exact List.countP_congr fun x _ => by simp [Function.comp, Nat.gcd_comm n]
    · simp
  omega
/-- How many of the numbers from 1 to k have no divisor in common with n. -/
def cntC (n k : Nat) : Nat := (List.range k).countP fun i => decide (Nat.gcd (i + 1) n = 1)
/-- How many of the elements from 1 to k have the order n. -/
def cntO (G : GFd) (n k : Nat) : Nat := (List.range k).countP fun i => decide (ordG G ((i + 1 : Nat) : Int) = n)
theorem cntC_zero (n : Nat) : cntC n 0 = 0 := rfl
theorem cntC_succ (n k : Nat) : cntC n (k + 1) = cntC n k + if Nat.gcd (k + 1) n = 1 then 1 else 0 := by
  unfold cntC
  rw [List.range_succ, List.countP_append, List.countP_singleton]
  simp
theorem cntC_le (n k : Nat) : cntC n k ≤ k := by unfold cntC; exact Nat.le_trans List.countP_le_length (by simp)
theorem cntO_succ (G : GFd) (n k : Nat) : cntO G n (k + 1) = cntO G n k + if ordG G ((k + 1 : Nat) : Int) = n then 1 else 0 := by
  unfold cntO
  rw [List.range_succ, List.countP_append, List.countP_singleton]
  simp
theorem cntO_le (G : GFd) (n k : Nat) : cntO G n k ≤ k := by unfold cntO; exact Nat.le_trans List.countP_le_length (by simp)
theorem gcd_quo {n d l : Nat} (hn : 0 < n) (hd : 0 < d) : n * d / Nat.gcd (n * d) l = n ↔ l % d = 0 ∧ Nat.gcd n (l / d) = 1 := by
  have hnd : 0 < n * d := Nat.mul_pos hn hd
  have hg : 0 < Nat.gcd (n * d) l := Nat.gcd_pos_of_pos_left _ hnd
  constructor
  · intro e
    have h1 := Nat.div_mul_cancel (Nat.gcd_dvd_left (n * d) l)
    rw [e] at h1
    have h2 : Nat.gcd (n * d) l = d := Nat.eq_of_mul_eq_mul_left hn h1
    have h3 : d ∣ l := by rw [← h2]; exact Nat.gcd_dvd_right _ _
    obtain ⟨c, rfl⟩ := h3
    refine ⟨Nat.mul_mod_right d c, ?_⟩
    rw [Nat.mul_div_cancel_left _ hd]
    rw [Nat.mul_comm n d, Nat.gcd_mul_left] at h2
    exact Nat.eq_of_mul_eq_mul_left hd (by rw [h2, Nat.mul_one])
  · rintro ⟨h1, h2⟩
    obtain ⟨c, rfl⟩ := Nat.dvd_of_mod_eq_zero h1
    rw [Nat.mul_div_cancel_left _ hd] at h2
    rw [Nat.mul_comm n d, Nat.gcd_mul_left, h2, Nat.mul_one, Nat.mul_comm, Nat.mul_div_cancel _ hd]
namespace Tabs
variable {G : GFd}
/-- There are phi(n) elements of the order n. -/
theorem count (h : Tabs G) {n : Nat} (hn : 0 < n) : cntO G n (G.q.toNat - 1) = if n ∣ G.q.toNat - 1 then cntC n n else 0 := by
  obtain ⟨q1, q2, _⟩ := h.qb
  obtain ⟨N, hN⟩ : ∃ N, N = G.q.toNat - 1 := ⟨_, rfl⟩
  have hN1 : 1 ≤ N := by omega
  have hp := h.log_perm
  rw [← hN] at hp ⊢
  have e1 : cntO G n N = (List.range N).countP (fun l => decide (N / Nat.gcd N l = n)) := by
    rw [← hp.countP_eq, List.countP_map]
    unfold cntO
    refine List.countP_congr fun i hi => ?_
    have hi' := List.mem_range.1 hi
    simp only [Function.comp, decide_eq_true_eq]
    unfold ordG
    rw [inn_yes (by omega), ← hN]
  rw [e1]
  by_cases hd : n ∣ N
  · obtain ⟨d, hdd⟩ := hd
    have hd0 : 0 < d := by rcases Nat.eq_zero_or_pos d with e | e
                           · rw [e, Nat.mul_zero] at hdd; omega
                           · exact e
    rw [if_pos ⟨d, hdd⟩, hdd]
    unfold cntC
    rw [← countP_shift, ← countP_mul (fun i => decide (Nat.gcd n i = 1)) hd0 n]
    refine List.countP_congr fun l _ => ?_
    rw [decide_eq_true_eq, gcd_quo hn hd0]
    simp
  · rw [if_neg hd, List.countP_eq_zero]
    intro l _ e
    rw [decide_eq_true_eq] at e
    exact hd (by rw [← e]; exact Nat.div_dvd_of_dvd (Nat.gcd_dvd_left _ _))
/-- Some element's order is that of the group. -/
theorem full (h : Tabs G) : 0 < cntO G (G.q.toNat - 1) (G.q.toNat - 1) := by
  have hN : 1 ≤ G.q.toNat - 1 := by have := h.qb; omega
  rw [h.count hN, if_pos (Nat.dvd_refl _)]
  unfold cntC
  rw [List.countP_pos_iff]
  exact ⟨0, List.mem_range.2 hN, by simp⟩
end Tabs
end Cw
namespace Cw
open Rg Fd PS
namespace Tabs
variable {G : GFd}
theorem inv_bd (h : Tabs G) (y : Int) : 0 ≤ invG G y ∧ invG G y < G.q := by
  unfold invG
  split
  · have := h.qb; omega
  · have := h.exp_bd (G.q - 1 - logG G (inn G.q y)); omega
theorem e_inv (h : Tabs G) {y : Int} (hy : inn G.q y ≠ 0) : h.e (invG G y) * h.e y = 1 := by
  obtain ⟨g, g1, g2, g3⟩ := h.e_exp
  obtain ⟨a0, a1, a2⟩ := g3 y hy
  unfold invG
  rw [if_neg hy, g2 _ (by omega), a2, ← pw_add, show (G.q - 1 - logG G (inn G.q y)).toNat + (logG G (inn G.q y)).toNat = G.q.toNat - 1 by omega, g1]
theorem inv_back (h : Tabs G) {y : Int} (hy : inn G.q y ≠ 0) : mulG G (invG G y) (inn G.q y) = 1 := by
  have := h.qb
  exact h.e_eq (h.mul_bd _ _) ⟨by omega, by omega⟩ (by rw [e_mul, e_inn, h.e_inv hy, e_one])
theorem div_back (h : Tabs G) (x : Int) {y : Int} (hy : inn G.q y ≠ 0) : mulG G (mulG G x (invG G y)) (inn G.q y) = inn G.q x := by
  have := h.qb
  exact h.e_eq (h.mul_bd _ _) (inn_bd (by omega) x) (by rw [e_mul, e_mul, e_inn, e_inn, Rg.mul_assoc, h.e_inv hy, Rg.mul_one])
end Tabs
end Cw
