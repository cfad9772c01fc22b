/- The numbers from 0 to q - 1 as residues of polynomials: sums, negatives, products. Plain algebra, no program in sight. No conditions. -/
import Derived.Test.YtnmidgcmlkofjaaMe
import Derived.Test.YtnmidgcmlkofjaaSpd
import Derived.Test.YtnmidgcmlkofjaaSpr
namespace Cw
open Rg Fd PS

theorem digL_succ {p x : Int} (hp : 0 < p) (m : Nat) : digL p x (m + 1) = x % p :: digL p (x / p) m := by
  unfold digL
  rw [List.range_succ_eq_map, List.map_cons, List.map_map, dgt_zero]
  congr 1
  exact List.map_congr_left fun i _ => dgt_succ hp i
theorem valL_digL {p : Int} (hp : 0 < p) : ∀ (m : Nat) (x : Int), 0 ≤ x → x < p ^ m → valL p (digL p x m) = x
  | 0, x, h0, h1 => by simp at h1; simp [digL, valL]; omega
  | m + 1, x, h0, h1 => by
    rw [digL_succ hp, valL, valL_digL hp m _ (Int.ediv_nonneg h0 (by omega)) (by
      rw [Int.pow_succ] at h1
      exact Int.ediv_lt_of_lt_mul hp h1)]
    have := Int.mul_ediv_add_emod x p
    omega
theorem digL_valL {p : Int} (hp : 0 < p) : ∀ {l : List Int}, Digs p l → digL p (valL p l) l.length = l
  | [], _ => by simp [digL]
  | d :: l, h => by
    obtain ⟨h1, h2⟩ := h d (by simp)
    rw [List.length_cons, digL_succ hp, valL]
    have e1 : (d + p * valL p l) % p = d := by rw [Int.add_mul_emod_self_left, Int.emod_eq_of_lt h1 h2]
    have e2 : (d + p * valL p l) / p = valL p l := by
      rw [Int.add_mul_ediv_left _ _ (by omega), Int.ediv_eq_zero_of_lt h1 h2, Int.zero_add]
    rw [e1, e2, digL_valL hp (fun x hx => h x (by simp [hx]))]
theorem dgt_head {P r a : Int} (hP : 0 < P) (h0 : 0 ≤ r) (h1 : r < P) : dgt P (r + P * a) 0 = r ∧ ∀ i, dgt P (r + P * a) (i + 1) = dgt P a i := by
  refine ⟨by rw [dgt_zero, Int.add_mul_emod_self_left, Int.emod_eq_of_lt h0 h1], fun i => ?_⟩
  rw [dgt_succ hP, Int.add_mul_ediv_left _ _ (by omega), Int.ediv_eq_zero_of_lt h0 h1, Int.zero_add]
theorem dgt_addD {P : Int} (hP : 0 < P) : ∀ (k : Nat) (x y : Int) (i : Nat), i < k → dgt P (addD P k x y) i = (dgt P x i + dgt P y i) % P
  | 0, _, _, i, h => by omega
  | k + 1, x, y, i, h => by
    obtain ⟨e1, e2⟩ := dgt_head (P := P) (r := (x + y) % P) (a := addD P k (x / P) (y / P)) hP (Int.emod_nonneg _ (by omega)) (Int.emod_lt_of_pos _ hP)
    rw [addD]
    cases i with
    | zero => rw [e1, dgt_zero, dgt_zero, ← Int.add_emod]
    | succ i => rw [e2, dgt_addD hP k _ _ i (by omega), dgt_succ hP, dgt_succ hP]
theorem dgt_negD {P : Int} (hP : 0 < P) : ∀ (k : Nat) (x : Int) (i : Nat), i < k → dgt P (negD P k x) i = -(dgt P x i) % P
  | 0, _, i, h => by omega
  | k + 1, x, i, h => by
    obtain ⟨e1, e2⟩ := dgt_head (P := P) (r := -(x % P) % P) (a := negD P k (x / P)) hP (Int.emod_nonneg _ (by omega)) (Int.emod_lt_of_pos _ hP)
    rw [negD]
    cases i with
    | zero => rw [e1, dgt_zero]
    | succ i => rw [e2, dgt_negD hP k _ i (by omega), dgt_succ hP]

/-- A description's numbers. -/
structure FS where
  P : Int
  m : Nat
  mod : List Int
  pr : Prm P
  hm : 1 ≤ m
namespace FS
def R (S : FS) : PrS := ⟨S.P, S.pr⟩
theorem pos (S : FS) : 0 < S.P := by have := S.pr.1; omega
/-- The list as a polynomial. -/
def pol (S : FS) (l : List Int) : PS (Zp S.R) := ⟨fun i => Zp.mk' S.R (l.getD i 0)⟩
theorem pol_at (S : FS) (l : List Int) (i : Nat) : S.pol l i = Zp.mk' S.R (l.getD i 0) := rfl
theorem pol_dl (S : FS) {l : List Int} {n : Nat} (h : l.length ≤ n) : dl (S.pol l) n := fun i hi => by
  rw [pol_at, List.getD_eq_getElem?_getD, List.getElem?_eq_none (by omega)]; rfl
/-- The low coefficient of the field's polynomial. -/
def low (S : FS) (i : Nat) : Int := if 1 < S.m then S.mod.getD i 0 else 0
def mon (S : FS) : Mon (Zp S.R) where
  f := ⟨fun i => if i = S.m then 1 else if i < S.m then Zp.mk' S.R (S.low i) else 0⟩
  m := S.m
  hf := fun i hi => by
    show (if i = S.m then (1 : Zp S.R) else if i < S.m then Zp.mk' S.R (S.low i) else 0) = 0
    rw [if_neg (by omega), if_neg (by omega)]
  h1 := by
    show (if S.m = S.m then (1 : Zp S.R) else if S.m < S.m then Zp.mk' S.R (S.low S.m) else 0) = 1
    rw [if_pos rfl]
  hm := S.hm
theorem mon_at (S : FS) (i : Nat) : S.mon.f i = if i = S.m then 1 else if i < S.m then Zp.mk' S.R (S.low i) else 0 := rfl
/-- The number as a residue. -/
def el (S : FS) (x : Int) : Rs S.mon := ⟨S.pol (digL S.P x S.m), S.pol_dl (by rw [length_digL]; exact Nat.le_refl _)⟩
theorem el_at (S : FS) (x : Int) {i : Nat} (h : i < S.m) : (S.el x).a i = Zp.mk' S.R (dgt S.P x i) := by
  show Zp.mk' S.R ((digL S.P x S.m).getD i 0) = _
  rw [digL_at h]
theorem el_eq (S : FS) {x : Int} {r : Rs S.mon} (h : ∀ i, i < S.m → (r.a i) = Zp.mk' S.R (dgt S.P x i)) : S.el x = r := Rs.ext (PS.ext fun i => by
  by_cases hi : i < S.m
  · rw [el_at S x hi, h i hi]
  · rw [(S.el x).h i (by show S.m ≤ i; omega), r.h i (by show S.m ≤ i; omega)])
theorem el_mk (S : FS) {l : List Int} (hd : Digs S.P l) (hl : l.length = S.m) : (S.el (valL S.P l)).a = S.pol l := by
  show S.pol (digL S.P (valL S.P l) S.m) = S.pol l
  rw [← hl, digL_valL S.pos hd]
theorem mk_dig (S : FS) {x : Int} (h0 : 0 ≤ x) (h1 : x < S.P) : (Zp.mk' S.R x).v = x := Int.emod_eq_of_lt h0 h1
theorem el_inj (S : FS) {x y : Int} (hx : 0 ≤ x ∧ x < S.P ^ S.m) (hy : 0 ≤ y ∧ y < S.P ^ S.m) (h : S.el x = S.el y) : x = y := by
  have e : digL S.P x S.m = digL S.P y S.m := List.ext_getElem (by simp [length_digL]) fun i h1 h2 => by
    rw [length_digL] at h1
    have := congrArg (fun r : Rs S.mon => (r.a i).v) h
    simp only [el_at S _ h1] at this
    rw [mk_dig S (dgt_nonneg S.pos i) (dgt_lt S.pos i), mk_dig S (dgt_nonneg S.pos i) (dgt_lt S.pos i)] at this
    simpa [digL] using this
  rw [← valL_digL S.pos S.m x hx.1 hx.2, ← valL_digL S.pos S.m y hy.1 hy.2, e]
theorem el_surj (S : FS) (r : Rs S.mon) : ∃ x, (0 ≤ x ∧ x < S.P ^ S.m) ∧ S.el x = r := by
  obtain ⟨l, hl⟩ : ∃ l, l = (List.range S.m).map fun i => (r.a i).v := ⟨_, rfl⟩
  have hd : Digs S.P l := fun x hx => by
    rw [hl] at hx
    obtain ⟨i, _, rfl⟩ := List.mem_map.1 hx
    exact ⟨(r.a i).lo, (r.a i).hi⟩
  have hlen : l.length = S.m := by rw [hl]; simp
  have hb := valL_bd S.pos hd
  rw [hlen] at hb
  refine ⟨valL S.P l, hb, Rs.ext ?_⟩
  rw [el_mk S hd hlen]
  refine PS.ext fun i => ?_
  rw [pol_at, hl]
  by_cases hi : i < S.m
  · simp only [List.getD_eq_getElem?_getD, List.getElem?_map, List.getElem?_range hi, Option.map_some, Option.getD_some]
    exact Zp.mk_of _
  · simp only [List.getD_eq_getElem?_getD, List.getElem?_map, List.getElem?_eq_none (show (List.range S.m).length ≤ i by simp; omega), Option.map_none, Option.getD_none]
    rw [r.h i (by show S.m ≤ i; omega)]
    rfl
theorem el_zero (S : FS) : S.el 0 = 0 := S.el_eq fun i _ => by
  rw [Rs.zero_a, zero_at]
  simp [dgt, Zp.mk_zero]
theorem el_one (S : FS) : S.el 1 = 1 := S.el_eq fun i _ => by
  rw [Rs.one_a, one_at]
  have h2 := S.pr.1
  cases i with
  | zero => rw [if_pos rfl, dgt_zero, Int.emod_eq_of_lt (by omega) (by omega)]; rfl
  | succ i =>
    rw [if_neg (by omega), dgt_succ S.pos, Int.ediv_eq_zero_of_lt (by omega) (by omega)]
    simp [dgt, Zp.mk_zero]
theorem mk_mod (S : FS) (x : Int) : Zp.mk' S.R (x % S.P) = Zp.mk' S.R x := Zp.mk_eq.2 (Int.emod_emod _ _)
theorem el_add (S : FS) (x y : Int) : S.el (addD S.P S.m x y) = S.el x + S.el y := S.el_eq fun i h => by
  rw [dgt_addD S.pos _ _ _ _ h, Rs.add_a, add_at, el_at S x h, el_at S y h, Zp.mk_add, mk_mod]
theorem el_neg (S : FS) (x : Int) : S.el (negD S.P S.m x) = -S.el x := S.el_eq fun i h => by
  rw [dgt_negD S.pos _ _ _ h, Rs.neg_a, neg_at, el_at S x h, Zp.mk_neg, mk_mod]

/-- One step of the product. -/
theorem pol_step (S : FS) {a out : List Int} (bi : Int) (ha : a.length = S.m) (ho : out.length = S.m) :
    S.pol (stepM S.P S.m S.mod a bi out) = X 1 * S.pol out + C (Zp.mk' S.R bi) * S.pol a - C (Zp.mk' S.R (out.getD (S.m - 1) 0)) * S.mon.f := PS.ext fun i => by
  have hm := S.hm
  rw [sub_at, add_at, X_mul_at, C_mul_at, C_mul_at, pol_at, pol_at, mon_at]
  by_cases hi : i < S.m
  · rw [stepM_at hi, mk_mod, ← Zp.mk_add, ← Zp.mk_add, ← Zp.mk_mul, ← Zp.mk_mul, ← Zp.mk_sub, if_neg (show ¬ i = S.m by omega), if_pos hi]
    have e : Zp.mk' S.R S.P = 0 := Zp.mk_p (R := S.R)
    rw [e, zero_sub, neg_mul]
    have e2 : (Zp.mk' S.R (if i = 0 then 0 else out.getD (i - 1) 0)) = if i < 1 then 0 else S.pol out (i - 1) := by
      by_cases h0 : i = 0
      · rw [if_pos h0, if_pos (by omega)]; rfl
      · rw [if_neg h0, if_neg (by omega)]; rfl
    rw [e2]
    show _ + -(_ * Zp.mk' S.R (S.low i)) + _ = _
    rw [sub_def]
    ac_rfl
  · have z : ∀ l : List Int, l.length = S.m → Zp.mk' S.R (l.getD i 0) = 0 := fun l hl => by
      rw [List.getD_eq_getElem?_getD, List.getElem?_eq_none (by omega)]; rfl
    have za : S.pol a i = 0 := z _ ha
    rw [z _ (length_stepM _ _ _ _ _ _), za, mul_zero, add_zero, if_neg (show ¬ i < 1 by omega)]
    by_cases he : i = S.m
    · rw [if_pos he, mul_one, he, sub_self]
    · rw [if_neg he, if_neg hi, mul_zero, sub_zero, List.getD_eq_getElem?_getD, List.getElem?_eq_none (by omega)]; rfl
/-- The coefficients of b that were used. -/
def top (S : FS) (b : List Int) (n : Nat) : PS (Zp S.R) := ⟨fun i => if i < n then Zp.mk' S.R (b.getD (S.m - n + i) 0) else 0⟩
theorem top_dl (S : FS) (b : List Int) (n : Nat) : dl (S.top b n) n := fun i hi => by
  show (if i < n then Zp.mk' S.R (b.getD (S.m - n + i) 0) else 0) = 0
  rw [if_neg (by omega)]
theorem top_succ (S : FS) (b : List Int) {n : Nat} (h : n < S.m) : S.top b (n + 1) = X 1 * S.top b n + C (Zp.mk' S.R (b.getD (S.m - 1 - n) 0)) := PS.ext fun i => by
  rw [add_at, X_mul_at, C_at]
  show (if i < n + 1 then Zp.mk' S.R (b.getD (S.m - (n + 1) + i) 0) else 0) = (if i < 1 then 0 else if i - 1 < n then Zp.mk' S.R (b.getD (S.m - n + (i - 1)) 0) else 0) + _
  by_cases h0 : i = 0
  · rw [if_pos (show i < n + 1 by omega), if_pos (show i < 1 by omega), if_pos h0, zero_add, h0, show S.m - (n + 1) + 0 = S.m - 1 - n by omega]
  · rw [if_neg (show ¬ i < 1 by omega), if_neg h0, add_zero]
    by_cases h1 : i < n + 1
    · rw [if_pos h1, if_pos (by omega), show S.m - (n + 1) + i = S.m - n + (i - 1) by omega]
    · rw [if_neg h1, if_neg (by omega)]
theorem horn_cg (S : FS) {a b : List Int} (ha : a.length = S.m) : ∀ n, n ≤ S.m → Rs.Cg S.mon (S.pol (hornM S.P S.m S.mod a b n)) (S.pol a * S.top b n)
  | 0, _ => by
    have e1 : S.pol (hornM S.P S.m S.mod a b 0) = 0 := PS.ext fun i => by
      rw [pol_at, hornM]
      by_cases hi : i < S.m
      · simp [hi, Zp.mk_zero, zero_at]
      · rw [List.getD_eq_getElem?_getD, List.getElem?_eq_none (by simp; omega)]; rfl
    have e2 : S.top b 0 = 0 := PS.ext fun i => by
      show (if i < 0 then Zp.mk' S.R (b.getD (S.m - 0 + i) 0) else 0) = 0
      rw [if_neg (by omega)]
    rw [e1, e2, mul_zero]
    exact Rs.cg_refl _
  | n + 1, h => by
    have ih := horn_cg S (b := b) ha n (by omega)
    rw [hornM, pol_step S _ ha (length_hornM _ _ _ _ _ _), top_succ S b (by omega), mul_add, sub_def]
    have h1 : Rs.Cg S.mon (X 1 * S.pol (hornM S.P S.m S.mod a b n)) (S.pol a * (X 1 * S.top b n)) := by
      have := Rs.cg_mul_left (F := S.mon) (X 1) (dl_X 1) ih
      have e : S.pol a * (X 1 * S.top b n) = X 1 * (S.pol a * S.top b n) := by ac_rfl
      rw [e]
      exact this
    have h2 := Rs.cg_mul_left (F := S.mon) (C (Zp.mk' S.R ((hornM S.P S.m S.mod a b n).getD (S.m - 1) 0))) (dl_C _) Rs.cg_self
    rw [mul_zero] at h2
    have h3 := Rs.cg_neg h2
    rw [neg_zero] at h3
    have := Rs.cg_add (Rs.cg_add h1 (Rs.cg_refl (C (Zp.mk' S.R (b.getD (S.m - 1 - n) 0)) * S.pol a))) h3
    rw [add_zero, mul_comm (C _) (S.pol a)] at this
    rw [mul_comm (C (Zp.mk' S.R (b.getD (S.m - 1 - n) 0))) (S.pol a)]
    exact this
theorem el_mul (S : FS) (x y : Int) : S.el (mulS S.P S.m S.mod x y) = S.el x * S.el y := by
  refine (Rs.mul_eq ?_).symm
  unfold mulS
  rw [el_mk S (digs_hornM S.pos _ _ _ _ _) (length_hornM _ _ _ _ _ _)]
  have h := horn_cg S (a := digL S.P x S.m) (b := digL S.P y S.m) (length_digL _ _ _) S.m (Nat.le_refl _)
  have e : S.top (digL S.P y S.m) S.m = (S.el y).a := PS.ext fun i => by
    show (if i < S.m then Zp.mk' S.R ((digL S.P y S.m).getD (S.m - S.m + i) 0) else 0) = Zp.mk' S.R ((digL S.P y S.m).getD i 0)
    by_cases hi : i < S.m
    · rw [if_pos hi, Nat.sub_self, Nat.zero_add]
    · rw [if_neg hi, List.getD_eq_getElem?_getD, List.getElem?_eq_none (by rw [length_digL]; omega)]; rfl
  rw [e] at h
  exact Rs.cg_symm h
/-- All residues. -/
theorem els (S : FS) : ∃ l : List (Rs S.mon), All l ∧ l.length = (S.P ^ S.m).toNat := by
  have hq : 0 ≤ S.P ^ S.m := Int.le_of_lt (Int.pow_pos S.pos)
  refine ⟨(List.range (S.P ^ S.m).toNat).map fun i : Nat => S.el i, ⟨?_, fun r => ?_⟩, by simp⟩
  · rw [List.nodup_iff_pairwise_ne, List.pairwise_map]
    refine List.Pairwise.imp_of_mem (R := fun x y => x < y) (fun {x y} hx hy hxy e => ?_) List.pairwise_lt_range
    have h1 := List.mem_range.1 hx
    have h2 := List.mem_range.1 hy
    have := S.el_inj ⟨by omega, by omega⟩ ⟨by omega, by omega⟩ e
    omega
  · obtain ⟨x, hx, e⟩ := S.el_surj r
    exact List.mem_map.2 ⟨x.toNat, List.mem_range.2 (by omega), by rw [Int.toNat_of_nonneg hx.1]; exact e⟩
end FS
end Cw
