/- Lists of elements as polynomials over a field's residues; canonical lists. Plain algebra, no program in sight. No conditions. Long division of lists, step by step. Plain algebra, no program in sight. No conditions. Sums and products of lists of numbers, as power series; the examples of the chapter on polynomials. Plain algebra. Lists of a field's elements as polynomials; values by Horner's rule. Plain algebra, no program in sight. No conditions. -/
import Derived.Test.YtmakdclgpeochaaMiA
import Derived.Test.YtmakdclgpeochaaMcA
import Derived.Test.YtmakdclgpeochaaMaA
namespace Cw
open Rg Fd PS

/-- A canonical list: elements, of which the last is not 0. -/
def Cano (G : GFd) (l : List Int) : Prop := (∀ x ∈ l, 0 ≤ x ∧ x < G.q) ∧ (l ≠ [] → l.getD (l.length - 1) 0 ≠ 0)
theorem can_nil (G : GFd) : Cano G [] := ⟨(fun x hx => absurd hx (by simp)), fun h => absurd rfl h⟩
theorem ld_mem {l : List Int} {i : Nat} (h : i < l.length) : l.getD i 0 ∈ l := by
  simp only [List.getD, List.getElem?_eq_getElem h, Option.getD_some]; exact List.getElem_mem _
theorem ld_out {l : List Int} {i : Nat} (h : l.length ≤ i) : l.getD i 0 = 0 := by rw [List.getD_eq_getElem?_getD, List.getElem?_eq_none h]; rfl
theorem ldset_eq {l : List Int} {i : Nat} (x : Int) (h : i < l.length) : (l.set i x).getD i 0 = x := by
  rw [List.getD, List.getElem?_set_self h]; rfl
theorem ldset_ne {l : List Int} {i j : Nat} (x : Int) (h : i ≠ j) : (l.set i x).getD j 0 = l.getD j 0 := by
  rw [List.getD, List.getElem?_set_ne h]; rfl
theorem ld_take (l : List Int) (n i : Nat) : (l.take n).getD i 0 = if i < n then l.getD i 0 else 0 := by
  by_cases h : i < n
  · rw [if_pos h, List.getD, List.getElem?_take_of_lt h]; rfl
  · rw [if_neg h, ld_out (by simp; omega)]
theorem can_range {G : GFd} {l : List Int} (h : Cano G l) (hq : 0 < G.q) (i : Nat) : 0 ≤ l.getD i 0 ∧ l.getD i 0 < G.q := by
  by_cases hi : i < l.length
  · exact h.1 _ (ld_mem hi)
  · rw [ld_out (by omega)]; omega

noncomputable instance fdR {G : GFd} (h : Tabs G) : Fd (Rs h.fs.mon) := inferInstanceAs (Fd (Rs (h.fs.imon h.irr).F))

namespace Tabs
variable {G : GFd}
/-- The list as a polynomial. -/
noncomputable def po (h : Tabs G) (l : List Int) : PS (Rs h.fs.mon) := ⟨fun i => h.e (l.getD i 0)⟩
theorem po_at (h : Tabs G) (l : List Int) (i : Nat) : h.po l i = h.e (l.getD i 0) := rfl
theorem po_ext (h : Tabs G) {l m : List Int} (k : ∀ i, h.e (l.getD i 0) = h.e (m.getD i 0)) : h.po l = h.po m := PS.ext k
theorem po_nil (h : Tabs G) : h.po [] = 0 := PS.ext fun i => by rw [po_at, ld_out (by simp), e_zero]; rfl
theorem po_dl (h : Tabs G) (l : List Int) : dl (h.po l) l.length := fun i hi => by rw [po_at, ld_out hi, e_zero]
theorem po_dl' (h : Tabs G) {l : List Int} {n : Nat} (hn : l.length ≤ n) : dl (h.po l) n := dl_mono (h.po_dl l) hn
theorem po_zeros (h : Tabs G) (n : Nat) : h.po (List.replicate n 0) = 0 := PS.ext fun i => by
  rw [po_at, zero_at]
  by_cases hi : i < n
  · simp [hi, h.e_zero]
  · rw [ld_out (by simp; omega), e_zero]
theorem po_one (h : Tabs G) : h.po [1] = 1 := PS.ext fun i => by
  rw [po_at, one_at]
  cases i with
  | zero => rw [if_pos rfl]; exact h.e_one
  | succ i => rw [if_neg (by omega), ld_out (by simp), e_zero]
theorem e_ne (h : Tabs G) {x : Int} (hx : 0 ≤ x ∧ x < G.q) (h0 : x ≠ 0) : h.e x ≠ 0 := fun e => h0 (by
  have := h.e_nz.1 e
  rwa [inn_yes hx] at this)
theorem can_top (h : Tabs G) {l : List Int} (hc : Cano G l) (hl : l ≠ []) : h.po l (l.length - 1) ≠ 0 := by
  have hq : 0 < G.q := by have := h.qb; omega
  exact h.e_ne (can_range hc hq _) (hc.2 hl)
/-- Trailing zeros do not matter. -/
theorem po_take (h : Tabs G) {l : List Int} {k : Nat} (hz : ∀ i, k ≤ i → l.getD i 0 = 0) : h.po (l.take k) = h.po l := h.po_ext fun i => by
  rw [ld_take]
  split
  · rfl
  · rw [hz i (by omega)]
theorem can_take {l : List Int} {k : Nat} (hr : ∀ x ∈ l, 0 ≤ x ∧ x < G.q) (hk : k ≤ l.length) (h0 : k = 0 ∨ l.getD (k - 1) 0 ≠ 0) : Cano G (l.take k) := by
  refine ⟨fun x hx => hr x (List.mem_of_mem_take hx), fun hne => ?_⟩
  have hl : (l.take k).length = k := by simp; omega
  rcases h0 with e | e
  · subst e; exact absurd (by simp) hne
  · have hk0 : 0 < k := by
      rcases Nat.eq_zero_or_pos k with g | g
      · subst g; exact absurd (by simp) hne
      · exact g
    rw [hl, ld_take, if_pos (by omega)]
    exact e
theorem can_len (h : Tabs G) {l : List Int} (hc : Cano G l) {n : Nat} : dl (h.po l) n ↔ l.length ≤ n := by
  constructor
  · intro hd
    rcases Nat.lt_or_ge n l.length with g | g
    · have hne : l ≠ [] := fun e => by rw [e] at g; simp at g
      exact absurd (hd (l.length - 1) (by omega)) (h.can_top hc hne)
    · exact g
  · exact fun hl => h.po_dl' hl
theorem can_zero (h : Tabs G) {l : List Int} (hc : Cano G l) : h.po l = 0 ↔ l = [] := by
  constructor
  · intro e
    have := (h.can_len hc (n := 0)).1 (by rw [e]; exact dl_zero 0)
    exact List.eq_nil_of_length_eq_zero (by omega)
  · rintro rfl; exact h.po_nil
theorem can_inj (h : Tabs G) {l m : List Int} (hl : Cano G l) (hm : Cano G m) (e : h.po l = h.po m) : l = m := by
  have hq : 0 < G.q := by have := h.qb; omega
  have h1 : l.length ≤ m.length := (h.can_len hl).1 (by rw [e]; exact h.po_dl m)
  have h2 : m.length ≤ l.length := (h.can_len hm).1 (by rw [← e]; exact h.po_dl l)
  refine list_eq_of (by omega) fun i _ => ?_
  have := congrArg (fun a : PS (Rs h.fs.mon) => a i) e
  simp only [po_at] at this
  exact h.e_eq (can_range hl hq i) (can_range hm hq i) this
theorem po_set (h : Tabs G) {l : List Int} {k : Nat} (hk : k < l.length) (z : Int) : h.po (l.set k z) = h.po l + C (h.e z - h.e (l.getD k 0)) * X k := PS.ext fun i => by
  rw [add_at, C_mul_at, X_at, po_at, po_at]
  by_cases e : i = k
  · subst e
    rw [if_pos rfl, Rg.mul_one, ldset_eq z hk, Rg.sub_def]
    have : h.e (l.getD i 0) + (h.e z + -h.e (l.getD i 0)) = h.e z + (h.e (l.getD i 0) + -h.e (l.getD i 0)) := by ac_rfl
    rw [this, Rg.add_neg, Rg.add_zero]
  · rw [if_neg e, Rg.mul_zero, Rg.add_zero, ldset_ne z (fun g => e g.symm)]
/-- A product's term is added. -/
theorem po_addmul (h : Tabs G) {l : List Int} {k : Nat} (hk : k < l.length) (a b : Int) : h.po (l.set k (addG G (l.getD k 0) (mulG G a b))) = h.po l + C (h.e a * h.e b) * X k := by
  rw [h.po_set hk, e_add, e_mul]
  congr 2
  rw [Rg.add_comm, Rg.add_sub_cancel]
theorem po_submul (h : Tabs G) {l : List Int} {k : Nat} (hk : k < l.length) (a b : Int) : h.po (l.set k (addG G (l.getD k 0) (negG G (mulG G a b)))) = h.po l - C (h.e a * h.e b) * X k := by
  rw [h.po_set hk, e_add, e_neg, e_mul]
  have e1 : h.e (l.getD k 0) + -(h.e a * h.e b) - h.e (l.getD k 0) = -(h.e a * h.e b) := by rw [Rg.add_comm, Rg.add_sub_cancel]
  rw [e1, C_neg, Rg.neg_mul, ← Rg.sub_def]
theorem po_inn (h : Tabs G) {l m : List Int} (k : ∀ i, m.getD i 0 = inn G.q (l.getD i 0)) : h.po m = h.po l := h.po_ext fun i => by rw [k, e_inn]
theorem add_range (h : Tabs G) {l : List Int} {k : Nat} (hr : ∀ x ∈ l, 0 ≤ x ∧ x < G.q) (x y : Int) : ∀ z ∈ l.set k (addG G x y), 0 ≤ z ∧ z < G.q := fun z hz => by
  rcases List.mem_or_eq_of_mem_set hz with e | e
  · exact hr z e
  · rw [e]; exact h.add_bd x y
end Tabs
end Cw
namespace Cw
open Rg Fd PS

/-- What holds before step number s of a long division: the quotient so far, the rest so far. -/
structure DvS {G : GFd} (h : Tabs G) (l1 l2 us rs : List Int) (s : Nat) : Prop where
  ul : us.length = l1.length + 1 - l2.length
  rl : rs.length = l1.length
  ur : ∀ i, 0 ≤ us.getD i 0 ∧ us.getD i 0 < G.q
  rr : ∀ i, 0 ≤ rs.getD i 0 ∧ rs.getD i 0 < G.q
  eq : h.po l1 = h.po us * h.po l2 + h.po rs
  uz : ∀ i, i + s < l1.length + 1 - l2.length → us.getD i 0 = 0
  rz : ∀ i, l1.length ≤ i + s → rs.getD i 0 = 0
/-- And within the step, before the coefficient number j. -/
structure DvI {G : GFd} (h : Tabs G) (l2 rs rs0 : List Int) (a : Int) (n j : Nat) : Prop where
  rl : rs.length = rs0.length
  rr : ∀ i, 0 ≤ rs.getD i 0 ∧ rs.getD i 0 < G.q
  eq : h.po rs = h.po rs0 - C (h.e a) * X n * sm j (fun i => C (h.po l2 i) * X i)

namespace Tabs
variable {G : GFd}
theorem range_getD {l : List Int} (h : Cano G l) (hq : 0 < G.q) : ∀ i, 0 ≤ l.getD i 0 ∧ l.getD i 0 < G.q := can_range h hq
theorem dv_start (h : Tabs G) {l1 l2 : List Int} (c1 : Cano G l1) : DvS h l1 l2 (List.replicate (l1.length + 1 - l2.length) 0) l1 0 := by
  have hq : 0 < G.q := by have := h.qb; omega
  have hz : ∀ i, (List.replicate (l1.length + 1 - l2.length) (0 : Int)).getD i 0 = 0 := fun i => by
    by_cases hi : i < l1.length + 1 - l2.length
    · simp [hi]
    · rw [ld_out (by simp; omega)]
  exact ⟨by simp, rfl, fun i => by rw [hz]; omega, can_range c1 hq, by rw [h.po_zeros, Rg.zero_mul, Rg.zero_add], fun i _ => hz i, fun i hi => ld_out (by omega)⟩
theorem dvi_start (h : Tabs G) {l2 rs : List Int} {a : Int} {n : Nat} (hr : ∀ i, 0 ≤ rs.getD i 0 ∧ rs.getD i 0 < G.q) : DvI h l2 rs rs a n 0 :=
  ⟨rfl, hr, by rw [sm_zero, Rg.mul_zero, Rg.sub_zero]⟩
theorem dvi_step (h : Tabs G) {l2 rs rs0 : List Int} {a : Int} {n j : Nat} (k : DvI h l2 rs rs0 a n j) (hn : n + j < rs0.length) :
    DvI h l2 (rs.set (n + j) (addG G (rs.getD (n + j) 0) (negG G (mulG G a (l2.getD j 0))))) rs0 a n (j + 1) := by
  have hlt : n + j < rs.length := by rw [k.rl]; exact hn
  refine ⟨by rw [List.length_set, k.rl], fun i => ?_, ?_⟩
  · by_cases e : i = n + j
    · subst e; rw [ldset_eq _ hlt]; exact h.add_bd _ _
    · rw [ldset_ne _ (fun g => e g.symm)]; exact k.rr i
  · rw [h.po_submul hlt, k.eq, sm_succ, Rg.mul_add, C_mul, X_add]
    have e1 : C (h.e a) * C (h.e (l2.getD j 0)) * (X n * X j) = C (h.e a) * X n * (C (h.po l2 j) * X j) := by
      show C (h.e a) * C (h.e (l2.getD j 0)) * (X n * X j) = C (h.e a) * X n * (C (h.e (l2.getD j 0)) * X j)
      ac_rfl
    rw [e1]
    generalize C (h.e a) * X n * (C (h.po l2 j) * X j) = z
    generalize C (h.e a) * X n * sm j (fun i => C (h.po l2 i) * X i) = y
    simp only [Rg.sub_def, Rg.neg_add_rev]
    ac_rfl
theorem dv_step (h : Tabs G) {l1 l2 us rs rs' : List Int} {s n : Nat} (c2 : Cano G l2) (h2 : l2 ≠ []) (k : DvS h l1 l2 us rs s) (hn : n + s + l2.length = l1.length) (i : DvI h l2 rs' rs (mulG G (rs.getD (n + l2.length - 1) 0) (invG G (l2.getD (l2.length - 1) 0))) n l2.length) :
    DvS h l1 l2 (us.set n (mulG G (rs.getD (n + l2.length - 1) 0) (invG G (l2.getD (l2.length - 1) 0)))) rs' (s + 1) := by
  have hz2 : 0 < l2.length := List.length_pos_iff.2 h2
  have hq : 0 < G.q := by have := h.qb; omega
  obtain ⟨a, ha⟩ : ∃ a, a = mulG G (rs.getD (n + l2.length - 1) 0) (invG G (l2.getD (l2.length - 1) 0)) := ⟨_, rfl⟩
  rw [← ha] at i ⊢
  have hun : n < us.length := by rw [k.ul]; omega
  have hu0 : us.getD n 0 = 0 := k.uz n (by omega)
  have ie := i.eq
  rw [← sum_X (h.po_dl l2)] at ie
  have hri : ∀ x, h.e (rs'.getD x 0) = h.e (rs.getD x 0) - h.e a * (if x < n then 0 else h.po l2 (x - n)) := fun x => by
    have := congrArg (fun p : PS (Rs h.fs.mon) => p x) ie
    simp only [sub_at, Rg.mul_assoc, C_mul_at, X_mul_at, po_at] at this
    exact this
  have htop : h.e a * h.po l2 (l2.length - 1) = h.e (rs.getD (n + l2.length - 1) 0) := by
    have hl : inn G.q (l2.getD (l2.length - 1) 0) ≠ 0 := by
      rw [inn_yes (can_range c2 hq _)]; exact c2.2 h2
    rw [ha, e_mul, po_at, Rg.mul_assoc, h.e_inv hl, Rg.mul_one]
  have hz : ∀ x, h.e (rs'.getD x 0) = 0 → rs'.getD x 0 = 0 := fun x e => by
    have := h.e_nz.1 e
    rwa [inn_yes (i.rr x)] at this
  refine ⟨by rw [List.length_set, k.ul], by rw [i.rl, k.rl], fun x => ?_, i.rr, ?_, fun x hx => ?_, fun x hx => hz x ?_⟩
  · by_cases e : x = n
    · subst e; rw [ldset_eq _ hun, ha]; exact h.mul_bd _ _
    · rw [ldset_ne _ (fun g => e g.symm)]; exact k.ur x
  · rw [h.po_set hun, hu0, h.e_zero, Rg.sub_zero, ie, k.eq, Rg.add_mul]
    generalize C (h.e a) * X n = c
    have e1 : h.po us * h.po l2 + c * h.po l2 + (h.po rs - c * h.po l2) = h.po us * h.po l2 + h.po rs + (c * h.po l2 + -(c * h.po l2)) := by
      rw [Rg.sub_def]; ac_rfl
    rw [e1, Rg.add_neg, Rg.add_zero]
  · rw [ldset_ne _ (by omega)]
    exact k.uz x (by omega)
  · rw [hri]
    by_cases e : x = n + l2.length - 1
    · rw [if_neg (by omega), show x - n = l2.length - 1 by omega, htop, e, Rg.sub_self]
    · rw [k.rz x (by omega), h.e_zero, if_neg (by omega), h.po_dl l2 _ (by omega), Rg.mul_zero, Rg.sub_zero]
/-- The end of a long division. -/
theorem dv_end (h : Tabs G) {l1 l2 us rs : List Int} (h2 : l2 ≠ []) (k : DvS h l1 l2 us rs (l1.length + 1 - l2.length)) : h.po l1 = h.po us * h.po l2 + h.po rs ∧ ∀ i, l2.length - 1 ≤ i → rs.getD i 0 = 0 := by
  have hz2 : 0 < l2.length := List.length_pos_iff.2 h2
  exact ⟨k.eq, fun i hi => k.rz i (by omega)⟩
end Tabs
end Cw
namespace Cw
open Rg Fd PS

def addLL (G : GFd) : List Int → List Int → List Int
  | [], m => m
  | x :: l, [] => x :: l
  | x :: l, y :: m => addG G x y :: addLL G l m
def mulLL (G : GFd) : List Int → List Int → List Int
  | [], _ => []
  | x :: l, m => addLL G (m.map (mulG G x)) (0 :: mulLL G l m)

namespace Tabs
variable {G : GFd}

theorem po_cons (h : Tabs G) (x : Int) (l : List Int) : h.po (x :: l) = C (h.e x) + X 1 * h.po l := PS.ext fun i => by
  rw [add_at, C_at, X_mul_at]
  cases i with
  | zero => rw [if_pos rfl, if_pos (by omega), Rg.add_zero]; rfl
  | succ i => rw [if_neg (by omega), if_neg (by omega), zero_add]; rfl
theorem po_addLL (h : Tabs G) : ∀ l m : List Int, h.po (addLL G l m) = h.po l + h.po m
  | [], m => by rw [addLL, po_nil, zero_add]
  | x :: l, [] => by rw [addLL, po_nil, Rg.add_zero]
  | x :: l, y :: m => by
    rw [addLL, po_cons, po_cons, po_cons, po_addLL h l m, e_add, C_add, Rg.mul_add]
    ac_rfl
theorem po_map (h : Tabs G) (x : Int) (m : List Int) : h.po (m.map (mulG G x)) = C (h.e x) * h.po m := PS.ext fun i => by
  rw [C_mul_at, po_at, po_at]
  by_cases hi : i < m.length
  · have : (m.map (mulG G x)).getD i 0 = mulG G x (m.getD i 0) := by simp [List.getD, hi]
    rw [this, e_mul]
  · rw [ld_out (by simp; omega), ld_out (by omega), e_zero, mul_zero]
theorem po_mulLL (h : Tabs G) : ∀ l m : List Int, h.po (mulLL G l m) = h.po l * h.po m
  | [], m => by rw [mulLL, po_nil, zero_mul]
  | x :: l, m => by
    rw [mulLL, po_addLL, po_map, po_cons, po_cons, po_mulLL h l m, e_zero, C_zero, zero_add, Rg.add_mul, Rg.mul_assoc]
end Tabs

theorem field2 : FieldP 2 1 [] := (field_check 2 1 []).2 ⟨⟨by decide, ⟨by omega, fun d h1 h2 => by omega⟩, fun _ => rfl, fun h => absurd rfl h⟩, fun h => absurd rfl h⟩
theorem field5 : FieldP 5 1 [] := (field_check 5 1 []).2 ⟨⟨by decide, ⟨by omega, fun d h1 h2 => by
  have : d = 2 ∨ d = 3 ∨ d = 4 := by omega
  rcases this with rfl | rfl | rfl <;> decide⟩, fun _ => rfl, fun h => absurd rfl h⟩, fun h => absurd rfl h⟩

theorem ex5 {G : GFd} (t : Tabs G) (h1 : G.P = 5) (h2 : G.M = 1) (h3 : G.mod = []) : t.po [1, 2, 0, 1] = t.po [1, 2, 1] * t.po [3, 1] + t.po [3] ∧ G.q = 5 := by
  have hq : G.q = 5 := by rw [t.hq, h1, h2]; decide
  have m13 : mulG G 1 3 = 3 := by rw [t.mul_mulS, h1, h2, h3, hq]; decide +kernel
  have m11 : mulG G 1 1 = 1 := by rw [t.mul_mulS, h1, h2, h3, hq]; decide +kernel
  have m23 : mulG G 2 3 = 1 := by rw [t.mul_mulS, h1, h2, h3, hq]; decide +kernel
  have m21 : mulG G 2 1 = 2 := by rw [t.mul_mulS, h1, h2, h3, hq]; decide +kernel
  have a30 : addG G 3 0 = 3 := by unfold addG; rw [h1, h2, hq]; decide +kernel
  have a10 : addG G 1 0 = 1 := by unfold addG; rw [h1, h2, hq]; decide +kernel
  have a23 : addG G 2 3 = 0 := by unfold addG; rw [h1, h2, hq]; decide +kernel
  have a11 : addG G 1 1 = 2 := by unfold addG; rw [h1, h2, hq]; decide +kernel
  have a33 : addG G 3 3 = 1 := by unfold addG; rw [h1, h2, hq]; decide +kernel
  refine ⟨?_, hq⟩
  rw [← t.po_mulLL, ← t.po_addLL]
  simp only [mulLL, addLL, List.map, m13, m11, m23, m21, a30, a10, a23, a11, a33]
theorem ex2 {G : GFd} (t : Tabs G) (h1 : G.P = 2) (h2 : G.M = 1) (h3 : G.mod = []) : t.po [1, 0, 0, 1] = t.po [1, 1, 1] * t.po [1, 1] ∧ G.q = 2 := by
  have hq : G.q = 2 := by rw [t.hq, h1, h2]; decide
  have m11 : mulG G 1 1 = 1 := by rw [t.mul_mulS, h1, h2, h3, hq]; decide +kernel
  have a10 : addG G 1 0 = 1 := by unfold addG; rw [h1, h2, hq]; decide +kernel
  have a11 : addG G 1 1 = 0 := by unfold addG; rw [h1, h2, hq]; decide +kernel
  refine ⟨?_, hq⟩
  rw [← t.po_mulLL]
  simp only [mulLL, addLL, List.map, m11, a10, a11]
end Cw
namespace Cw
open Rg Fd PS

/-- The value of a list of coefficients, by Horner's rule. -/
def evL (G : GFd) : List Int → Int → Int
  | [], _ => 0
  | c :: l, x => addG G (mulG G (evL G l x) x) c
namespace Tabs
variable {G : GFd}
/-- The list as a polynomial. -/
noncomputable def pl (h : Tabs G) (l : List Int) : Pl (Rs h.fs.mon) := ⟨h.po l, l.length, h.po_dl l⟩
theorem pl_a (h : Tabs G) (l : List Int) : (h.pl l).a = h.po l := rfl
theorem pl_at (h : Tabs G) (l : List Int) (i : Nat) : (h.pl l).a i = h.e (l.getD i 0) := rfl
theorem pl_of (h : Tabs G) {l : List Int} {P : Pl (Rs h.fs.mon)} (e : h.po l = P.a) : h.pl l = P := Pl.ext e
theorem pl_po (h : Tabs G) {l m : List Int} (e : h.po l = h.po m) : h.pl l = h.pl m := Pl.ext e
theorem pl_ext (h : Tabs G) {l m : List Int} (k : ∀ i, h.e (l.getD i 0) = h.e (m.getD i 0)) : h.pl l = h.pl m := Pl.ext (h.po_ext k)
theorem pl_ln_le (h : Tabs G) (l : List Int) : (h.pl l).ln ≤ l.length := Pl.ln_le.2 (h.po_dl l)
theorem pl_nil (h : Tabs G) : h.pl [] = 0 := Pl.ext h.po_nil
theorem pl_one (h : Tabs G) : h.pl [1] = 1 := Pl.ext h.po_one
theorem pl_zeros (h : Tabs G) (n : Nat) : h.pl (List.replicate n 0) = 0 := Pl.ext (h.po_zeros n)
theorem pl_take (h : Tabs G) {l : List Int} {k : Nat} (hz : ∀ i, k ≤ i → l.getD i 0 = 0) : h.pl (l.take k) = h.pl l := Pl.ext (h.po_take hz)
theorem pl_inn (h : Tabs G) {l m : List Int} (k : ∀ i, m.getD i 0 = inn G.q (l.getD i 0)) : h.pl m = h.pl l := Pl.ext (h.po_inn k)
theorem pl_inj (h : Tabs G) {l m : List Int} (hl : Cano G l) (hm : Cano G m) (e : h.pl l = h.pl m) : l = m := h.can_inj hl hm (congrArg Pl.a e)
theorem can_ln (h : Tabs G) {l : List Int} (hc : Cano G l) : (h.pl l).ln = l.length := by
  refine Nat.le_antisymm (h.pl_ln_le l) ?_
  exact (h.can_len hc).1 (Pl.ln_dl _)
theorem can_ln' (h : Tabs G) {l : List Int} {P : Pl (Rs h.fs.mon)} (hc : Cano G l) (e : h.pl l = P) : l.length = P.ln := by rw [← e, h.can_ln hc]
theorem pl_zero (h : Tabs G) {l : List Int} (hc : Cano G l) : h.pl l = 0 ↔ l = [] := by
  rw [← Pl.ln_eq_zero, h.can_ln hc, List.length_eq_zero_iff]
/-- Every polynomial is that of a canonical list. -/
theorem e_surj (h : Tabs G) (r : Rs h.fs.mon) : ∃ x, (0 ≤ x ∧ x < G.q) ∧ h.e x = r := by
  obtain ⟨x, hx, e⟩ := h.fs.el_surj r
  have hx' : 0 ≤ x ∧ x < G.q := by rw [h.qe]; exact hx
  exact ⟨x, hx', by rw [h.e_of hx', e]⟩
theorem pl_cons (h : Tabs G) (x : Int) (l : List Int) : h.pl (x :: l) = Pl.c (h.e x) + Pl.x 1 * h.pl l := Pl.ext (PS.ext fun i => by
  show h.e ((x :: l).getD i 0) = (Pl.c (h.e x)).a i + (Pl.x 1 * h.pl l).a i
  rw [Pl.c_at, Pl.x_mul_at]
  cases i with
  | zero => rw [if_pos rfl, if_pos (by omega), Rg.add_zero]; rfl
  | succ i => rw [if_neg (by omega), if_neg (by omega), Rg.zero_add]; rfl)
theorem pl_single (h : Tabs G) (x : Int) : h.pl [x] = Pl.c (h.e x) := by rw [pl_cons, pl_nil, Rg.mul_zero, Rg.add_zero]
theorem pl_lin (h : Tabs G) (r : Int) : h.pl [negG G r, 1] = Pl.lin (h.e r) := by
  rw [pl_cons, pl_single, h.e_neg, h.e_one, Pl.c_one, Rg.mul_one, Pl.c_neg]
  unfold Pl.lin
  rw [Rg.sub_def, Rg.add_comm]
theorem pl_map (h : Tabs G) (a : Int) (l : List Int) : h.pl (l.map (mulG G a)) = Pl.c (h.e a) * h.pl l := Pl.ext (PS.ext fun i => by
  rw [Pl.c_mul_at, pl_at, pl_at]
  by_cases hi : i < l.length
  · have : (l.map (mulG G a)).getD i 0 = mulG G a (l.getD i 0) := by simp [List.getD, hi]
    rw [this, e_mul]
  · rw [ld_out (by simp; omega), ld_out (by omega), e_zero, Rg.mul_zero])
theorem map_range (h : Tabs G) (a : Int) (l : List Int) (i : Nat) : 0 ≤ (l.map (mulG G a)).getD i 0 ∧ (l.map (mulG G a)).getD i 0 < G.q := by
  by_cases hi : i < l.length
  · have : (l.map (mulG G a)).getD i 0 = mulG G a (l.getD i 0) := by simp [List.getD, hi]
    rw [this]; exact h.mul_bd _ _
  · rw [ld_out (by simp; omega)]; have := h.qb; omega
theorem can_range' (h : Tabs G) {l : List Int} (hc : Cano G l) (i : Nat) : 0 ≤ l.getD i 0 ∧ l.getD i 0 < G.q := can_range hc (by have := h.qb; omega) i
/-- A canonical list times an element other than 0. -/
theorem can_map (h : Tabs G) {a : Int} {l : List Int} (ha : inn G.q a ≠ 0) (hc : Cano G l) : Cano G (l.map (mulG G a)) := by
  refine ⟨fun x hx => ?_, fun hne e => ?_⟩
  · obtain ⟨y, _, rfl⟩ := List.mem_map.1 hx
    exact h.mul_bd _ _
  · have hl : l ≠ [] := fun e => hne (by rw [e]; rfl)
    have hp : 0 < l.length := List.length_pos_iff.2 hl
    rw [List.length_map] at e
    have h1 : (l.map (mulG G a)).getD (l.length - 1) 0 = mulG G a (l.getD (l.length - 1) 0) := by simp [List.getD, show l.length - 1 < l.length by omega]
    rw [h1] at e
    have h2 := congrArg h.e e
    rw [e_mul, e_zero] at h2
    rcases Fd.mul_eq_zero h2 with g | g
    · exact ha (h.e_nz.1 g)
    · exact h.e_ne (h.can_range' hc _) (hc.2 hl) g
theorem e_invG (h : Tabs G) {y : Int} (hy : inn G.q y ≠ 0) : h.e (invG G y) = inv (h.e y) := inv_unique (by rw [Rg.mul_comm]; exact h.e_inv hy)
theorem inv_nz (h : Tabs G) {y : Int} (hy : inn G.q y ≠ 0) : inn G.q (invG G y) ≠ 0 := fun e => by
  have := h.e_nz.2 e
  rw [h.e_invG hy] at this
  exact Fd.inv_ne (fun e => hy (h.e_nz.1 e)) this
/-- A canonical list divided by its leading coefficient. -/
theorem mon_list (h : Tabs G) {l : List Int} (hc : Cano G l) (hl : l ≠ []) : inn G.q (l.getD (l.length - 1) 0) ≠ 0 ∧ Cano G (l.map (mulG G (invG G (l.getD (l.length - 1) 0)))) ∧ h.pl (l.map (mulG G (invG G (l.getD (l.length - 1) 0)))) = Pl.mon (h.pl l) := by
  have h0 : inn G.q (l.getD (l.length - 1) 0) ≠ 0 := by rw [inn_yes (h.can_range' hc _)]; exact hc.2 hl
  refine ⟨h0, h.can_map (h.inv_nz h0) hc, ?_⟩
  rw [pl_map, h.e_invG h0]
  unfold Pl.mon Pl.lc
  rw [h.can_ln hc]
  rfl
theorem evL_bd (h : Tabs G) (l : List Int) (x : Int) : 0 ≤ evL G l x ∧ evL G l x < G.q := by
  cases l with
  | nil => have := h.qb; unfold evL; omega
  | cons c l => exact h.add_bd _ _
theorem e_evL (h : Tabs G) : ∀ (l : List Int) (x : Int), h.e (evL G l x) = Pl.ev (h.pl l) (h.e x)
  | [], x => by rw [pl_nil, Pl.ev_zero]; exact h.e_zero
  | c :: l, x => by
    rw [evL, e_add, e_mul, e_evL h l x, pl_cons, Pl.ev_add, Pl.ev_mul, Pl.ev_c, Pl.ev_x, Rg.pw_one, Rg.mul_comm, Rg.add_comm]
theorem evL_of (h : Tabs G) {l : List Int} {x y : Int} (hy : 0 ≤ y ∧ y < G.q) (k : h.e y = Pl.ev (h.pl l) (h.e x)) : y = evL G l x := h.e_eq hy (h.evL_bd l x) (by rw [k, e_evL])
theorem evL_congr (h : Tabs G) {l m : List Int} (x : Int) (k : h.pl l = h.pl m) : evL G l x = evL G m x := h.e_eq (h.evL_bd l x) (h.evL_bd m x) (by rw [e_evL, e_evL, k])
theorem evL_inn (h : Tabs G) (l : List Int) (x : Int) : evL G l (inn G.q x) = evL G l x := h.e_eq (h.evL_bd l _) (h.evL_bd l x) (by rw [e_evL, e_evL, e_inn])
theorem evL_zero (h : Tabs G) {l : List Int} {x : Int} : evL G l x = 0 ↔ Pl.ev (h.pl l) (h.e x) = 0 := by
  rw [← e_evL, h.e_nz, inn_yes (h.evL_bd l x)]
theorem evL_drop (l : List Int) {k : Nat} (hk : k < l.length) (x : Int) : evL G (l.drop k) x = addG G (mulG G (evL G (l.drop (k + 1)) x) x) (l.getD k 0) := by
  rw [List.drop_eq_getElem_cons hk, evL]
  simp only [List.getD, List.getElem?_eq_getElem hk, Option.getD_some]
theorem e_inn_eq (h : Tabs G) {x y : Int} : inn G.q x = inn G.q y ↔ h.e x = h.e y := ⟨fun k => by rw [← h.e_inn x, k, h.e_inn], h.e_inj⟩

/-! ### Small multiples -/
/-- The elements below P are the multiples of 1. -/
theorem e_nat (h : Tabs G) : ∀ n : Nat, (n : Int) < G.P → h.e n = nsm n 1
  | 0, _ => h.e_zero
  | n + 1, hn => by
    have ih := e_nat h n (by omega)
    obtain ⟨q1, q2, q3, q4, q5, q6, q7⟩ := h.qb
    have hPq : G.P ≤ G.q := by
      rw [q7]
      have := pow_le (p := G.P) (by omega) (i := 1) (j := G.M.toNat) (by omega)
      rwa [Int.pow_one] at this
    have hadd : addG G n 1 = ((n + 1 : Nat) : Int) := by
      unfold addG
      rw [inn_yes (by omega), inn_yes (by omega)]
      obtain ⟨m, hm⟩ : ∃ m, G.M.toNat = m + 1 := ⟨G.M.toNat - 1, by omega⟩
      rw [hm, addD, Int.ediv_eq_zero_of_lt (by omega) (by omega), Int.ediv_eq_zero_of_lt (by omega) (by omega), addD_zero]
      rw [Int.emod_eq_of_lt (by omega) (by omega)]
      omega
    rw [← hadd, e_add, ih, e_one, nsm_succ]
theorem nsm_P (h : Tabs G) : nsm G.P.toNat (1 : Rs h.fs.mon) = 0 := by
  obtain ⟨q1, q2, q3, q4, q5, q6, q7⟩ := h.qb
  obtain ⟨n, hn⟩ : ∃ n, G.P.toNat = n + 1 := ⟨G.P.toNat - 1, by omega⟩
  have hP : G.P = (n : Int) + 1 := by omega
  have hPq : G.P ≤ G.q := by
    rw [q7]
    have := pow_le (p := G.P) (by omega) (i := 1) (j := G.M.toNat) (by omega)
    rwa [Int.pow_one] at this
  have hadd : addG G n 1 = 0 := by
    unfold addG
    rw [inn_yes (by omega), inn_yes (by omega)]
    obtain ⟨m, hm⟩ : ∃ m, G.M.toNat = m + 1 := ⟨G.M.toNat - 1, by omega⟩
    rw [hm, addD, Int.ediv_eq_zero_of_lt (by omega) (by omega), Int.ediv_eq_zero_of_lt (by omega) (by omega), addD_zero, ← hP, Int.emod_self]
    omega
  rw [hn, nsm_succ, ← h.e_nat n (by omega), ← h.e_one, ← e_add, hadd, e_zero]
theorem e_mod (h : Tabs G) (n : Nat) : h.e ((n : Int) % G.P) = nsm n 1 := by
  obtain ⟨q1, q2, q3, q4, q5, q6, q7⟩ := h.qb
  have e : (n : Int) % G.P = ((n % G.P.toNat : Nat) : Int) := by
    rw [Int.natCast_emod, Int.toNat_of_nonneg (by omega)]
  have hlt : ((n % G.P.toNat : Nat) : Int) < G.P := by rw [← e]; exact Int.emod_lt_of_pos _ (by omega)
  rw [e, h.e_nat _ hlt]
  exact nsm_mod h.nsm_P n 1
end Tabs
end Cw
