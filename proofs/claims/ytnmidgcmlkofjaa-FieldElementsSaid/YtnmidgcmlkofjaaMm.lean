/- The reference's sums, negatives and products are those of the field. Plain algebra, no program in sight. No conditions. -/
import Derived.Test.YtnmidgcmlkofjaaMh
import Derived.Test.YtnmidgcmlkofjaaSpm
namespace Cw
open Rg Fd PS

namespace FS
theorem getD_none {l : List Int} {i : Nat} (h : l.length ≤ i) : l.getD i 0 = 0 := by rw [List.getD_eq_getElem?_getD, List.getElem?_eq_none h]; rfl
theorem pol_set (S : FS) {c : List Int} {i : Nat} (x : Int) (h : i < c.length) : S.pol (c.set i (x % S.P)) = S.pol c + C (Zp.mk' S.R x - Zp.mk' S.R (c.getD i 0)) * X i := PS.ext fun k => by
  rw [add_at, C_mul_at, X_at, pol_at, pol_at]
  by_cases e : k = i
  · subst e
    rw [if_pos rfl, mul_one, List.getD, List.getElem?_set_self h, Option.getD_some, mk_mod]
    rw [sub_def]
    have : Zp.mk' S.R (c.getD k 0) + (Zp.mk' S.R x + -Zp.mk' S.R (c.getD k 0)) = Zp.mk' S.R x + (Zp.mk' S.R (c.getD k 0) + -Zp.mk' S.R (c.getD k 0)) := by ac_rfl
    rw [this, add_neg, add_zero]
  · rw [if_neg e, mul_zero, add_zero, List.getD, List.getElem?_set_ne (fun h => e h.symm)]; rfl
theorem pol_cvStep (S : FS) (a b : List Int) {i j : Nat} {c : List Int} (h : i + j < c.length) : S.pol (cvStep S.P a b i j c) = S.pol c + C (S.pol a i) * X i * (C (S.pol b j) * X j) := by
  unfold cvStep
  rw [pol_set S _ h, ← Zp.mk_add, ← Zp.mk_mul]
  have e : Zp.mk' S.R (c.getD (i + j) 0) + Zp.mk' S.R (a.getD i 0) * Zp.mk' S.R (b.getD j 0) - Zp.mk' S.R (c.getD (i + j) 0) = S.pol a i * S.pol b j := by
    rw [add_comm, add_sub_cancel]; rfl
  rw [e, C_mul, X_add]
  congr 1
  ac_rfl
theorem pol_cvRow (S : FS) (a b : List Int) {i : Nat} {c : List Int} : ∀ n, i + n ≤ c.length → S.pol (cvRow S.P a b i c n) = S.pol c + C (S.pol a i) * X i * sm n (fun j => C (S.pol b j) * X j)
  | 0, _ => by rw [cvRow, sm_zero, mul_zero, add_zero]
  | n + 1, h => by rw [cvRow, pol_cvStep S a b (by rw [length_cvRow]; omega), pol_cvRow S a b n (by omega), sm_succ, mul_add, add_assoc]
theorem pol_cvAll (S : FS) {a b : List Int} {c : List Int} (hb : b.length ≤ S.m) : ∀ n, n + S.m ≤ c.length + 1 → S.pol (cvAll S.P S.m a b c n) = S.pol c + sm n (fun i => C (S.pol a i) * X i) * S.pol b
  | 0, _ => by rw [cvAll, sm_zero, zero_mul, add_zero]
  | n + 1, h => by
    rw [cvAll, pol_cvRow S a b S.m (by rw [length_cvAll]; omega), pol_cvAll S hb n (by omega), ← sum_X (S.pol_dl hb), sm_succ, add_mul, add_assoc]
theorem pol_zeros (S : FS) (n : Nat) : S.pol (List.replicate n 0) = 0 := PS.ext fun i => by
  rw [pol_at, zero_at]
  by_cases h : i < n
  · simp [h, Zp.mk_zero]
  · rw [getD_none (by simp; omega)]; rfl
theorem pol_conv (S : FS) {a b : List Int} (ha : a.length ≤ S.m) (hb : b.length ≤ S.m) : S.pol (cvAll S.P S.m a b (List.replicate (2 * S.m - 1) 0) S.m) = S.pol a * S.pol b := by
  have hm := S.hm
  rw [pol_cvAll S hb S.m (by simp; omega), pol_zeros, zero_add, ← sum_X (S.pol_dl ha)]
theorem rdRow_at (p : Int) {m : Nat} (mod : List Int) {i : Nat} (c : List Int) (hmi : m ≤ i) (hi : i < c.length) {k : Nat} (hk : k < c.length) : ∀ n, n ≤ m →
    (rdRow p m mod i c n).getD k 0 = if i - m ≤ k ∧ k < i - m + n then (c.getD k 0 + (p - c.getD i 0) * mod.getD (k - (i - m)) 0) % p else c.getD k 0
  | 0, _ => by rw [if_neg (by omega)]; rfl
  | n + 1, h => by
    have ih := rdRow_at p mod c hmi hi hk n (by omega)
    have ii : (rdRow p m mod i c n).getD i 0 = c.getD i 0 := by
      rw [rdRow_at p mod c hmi hi hi n (by omega), if_neg (by omega)]
    rw [rdRow, rdStep]
    by_cases e : i - m + n = k
    · rw [if_neg (by omega)] at ih
      rw [if_pos (by omega), List.getD, e, List.getElem?_set_self (by rw [length_rdRow]; exact hk), Option.getD_some, ii, ih, show k - (i - m) = n by omega]
    · rw [List.getD, List.getElem?_set_ne e]
      by_cases h2 : i - m ≤ k ∧ k < i - m + n
      · rw [if_pos h2] at ih; rw [if_pos (by omega)]; exact ih
      · rw [if_neg h2] at ih; rw [if_neg (by omega)]; exact ih
theorem take_at (c : List Int) (n i : Nat) : (c.take n).getD i 0 = if i < n then c.getD i 0 else 0 := by
  by_cases h : i < n
  · rw [if_pos h, List.getD, List.getElem?_take_of_lt h]; rfl
  · rw [if_neg h, getD_none (by simp; omega)]
theorem pol_rdRow (S : FS) {i : Nat} {c : List Int} (h1 : 1 < S.m) (hmi : S.m ≤ i) (hi : i < c.length) :
    S.pol ((rdRow S.P S.m S.mod i c S.m).take i) = S.pol (c.take (i + 1)) - C (S.pol c i) * (X (i - S.m) * S.mon.f) := PS.ext fun k => by
  rw [sub_at, C_mul_at, X_mul_at, pol_at, pol_at, take_at, take_at, mon_at]
  rcases Nat.lt_trichotomy k i with h | h | h
  · rw [if_pos h, if_pos (by omega), rdRow_at S.P S.mod c hmi hi (by omega) S.m (Nat.le_refl _)]
    by_cases h2 : k < i - S.m
    · rw [if_neg (by omega), if_pos h2, mul_zero, sub_zero]
    · rw [if_pos (by omega), if_neg h2, if_neg (by omega), if_pos (by omega), mk_mod, ← Zp.mk_add, ← Zp.mk_mul, ← Zp.mk_sub]
      have e0 : Zp.mk' S.R S.P = 0 := Zp.mk_p (R := S.R)
      rw [e0, zero_sub, neg_mul, ← sub_def]
      unfold low
      rw [if_pos h1]
      rfl
  · subst h
    rw [if_neg (by omega), if_pos (by omega), if_neg (by omega), if_pos (by omega), mul_one, pol_at, sub_self]; rfl
  · rw [if_neg (by omega), if_neg (by omega), if_neg (by omega), if_neg (by omega), if_neg (by omega), mul_zero, sub_zero]
theorem cg_rdAll (S : FS) {c : List Int} (hc : c.length = 2 * S.m - 1) : ∀ n, n ≤ S.m - 1 → Rs.Cg S.mon (S.pol ((rdAll S.P S.m S.mod c n).take (2 * S.m - 1 - n))) (S.pol c)
  | 0, _ => by
    rw [rdAll, List.take_of_length_le (by omega)]
    exact Rs.cg_refl _
  | n + 1, h => by
    have ih := cg_rdAll S hc n (by omega)
    rw [rdAll, show 2 * S.m - 1 - (n + 1) = 2 * S.m - 2 - n by omega, pol_rdRow S (by omega) (by omega) (by rw [length_rdAll]; omega), show 2 * S.m - 2 - n + 1 = 2 * S.m - 1 - n by omega]
    refine Rs.cg_trans ?_ ih
    have h2 := Rs.cg_mul_left (F := S.mon) (C (S.pol (rdAll S.P S.m S.mod c n) (2 * S.m - 2 - n)) * X (2 * S.m - 2 - n - S.m)) (dl_Cmul _ (dl_X _)) Rs.cg_self
    rw [mul_zero, mul_assoc] at h2
    have h3 := Rs.cg_add (Rs.cg_refl (S.pol ((rdAll S.P S.m S.mod c n).take (2 * S.m - 1 - n)))) (Rs.cg_neg h2)
    rw [neg_zero, add_zero, ← sub_def] at h3
    exact h3
/-- The reference's product is that of the residues. -/
theorem el_rMul (S : FS) (x y : Int) : S.el (valL S.P (rMulL S.P S.m S.mod (digL S.P x S.m) (digL S.P y S.m))) = S.el x * S.el y := by
  have hm := S.hm
  refine (Rs.mul_eq (Rs.cg_symm ?_)).symm
  rw [el_mk S (rMulL_digs S.pos _ _ _ _) (rMulL_len _ _ _ _ _ hm)]
  have h := cg_rdAll S (c := cvAll S.P S.m (digL S.P x S.m) (digL S.P y S.m) (List.replicate (2 * S.m - 1) 0) S.m) (by rw [length_cvAll, List.length_replicate]) (S.m - 1) (Nat.le_refl _)
  rw [show 2 * S.m - 1 - (S.m - 1) = S.m by omega, pol_conv S (by rw [length_digL]; exact Nat.le_refl _) (by rw [length_digL]; exact Nat.le_refl _)] at h
  exact h
theorem rMul_mulS (S : FS) (x y : Int) : valL S.P (rMulL S.P S.m S.mod (digL S.P x S.m) (digL S.P y S.m)) = mulS S.P S.m S.mod x y := by
  have hb := valL_bd S.pos (rMulL_digs S.pos S.m S.mod (digL S.P x S.m) (digL S.P y S.m))
  rw [rMulL_len _ _ _ _ _ S.hm] at hb
  exact S.el_inj hb (S.mul_bd x y) (by rw [el_rMul, el_mul])
end FS

theorem valL_adL {P : Int} (hP : 0 < P) (m : Nat) (x y : Int) : valL P (adL P (digL P x m) (digL P y m) m) = addD P m x y := by
  have hd : Digs P (adL P (digL P x m) (digL P y m) m) := digs_adL hP _ (digs_digL hP m) m
  have hl : (adL P (digL P x m) (digL P y m) m).length = m := by rw [length_adL, length_digL]
  obtain ⟨b0, b1⟩ := addD_bd hP m x y
  have e : adL P (digL P x m) (digL P y m) m = digL P (addD P m x y) m := List.ext_getElem (by rw [hl, length_digL]) fun i h1 h2 => by
    have hi : i < m := by omega
    have k1 := adL_at P (digL P x m) (digL P y m) m i (by rw [length_digL]; exact hi)
    rw [if_pos hi, digL_at hi, digL_at hi, ← dgt_addD hP m x y i hi] at k1
    simp only [List.getD, List.getElem?_eq_getElem h1, Option.getD_some] at k1
    rw [k1]
    simp [digL]
  rw [e, valL_digL hP m _ b0 b1]
theorem valL_ngL {P : Int} (hP : 0 < P) (m : Nat) (x : Int) : valL P (ngL P (digL P x m) m) = negD P m x := by
  have hl : (ngL P (digL P x m) m).length = m := by rw [length_ngL, length_digL]
  obtain ⟨b0, b1⟩ := negD_bd hP m x
  have e : ngL P (digL P x m) m = digL P (negD P m x) m := List.ext_getElem (by rw [hl, length_digL]) fun i h1 h2 => by
    have hi : i < m := by omega
    have k1 := ngL_at P (digL P x m) m i (by rw [length_digL]; exact hi)
    have k2 : (P - dgt P x i) % P = -dgt P x i % P := by rw [show P - dgt P x i = -dgt P x i + P * 1 by omega, Int.add_mul_emod_self_left]
    rw [if_pos hi, digL_at hi, k2, ← dgt_negD hP m x i hi] at k1
    simp only [List.getD, List.getElem?_eq_getElem h1, Option.getD_some] at k1
    rw [k1]
    simp [digL]
  rw [e, valL_digL hP m _ b0 b1]
end Cw
