/- Orders of elements by logarithms, how many there are of each, and powers by repeated products. Plain algebra, no program in sight. No conditions. -/
import Derived.Test.YtnmidgcmlkofjaaMj
namespace Cw
open Rg Fd PS

/-- The order of a power. -/
theorem ord_pow {α : Type} [Rg α] {a : α} {N l : Nat} (h : Ord a N) : Ord (pw a l) (N / Nat.gcd N l) := by
  have hN := h.1
  have hd : 0 < Nat.gcd N l := Nat.gcd_pos_of_pos_left _ hN
  obtain ⟨n', l', hc, e1, e2⟩ := Nat.exists_coprime N l
  obtain ⟨d, hdd⟩ : ∃ d, d = Nat.gcd N l := ⟨_, rfl⟩
  rw [← hdd] at hd e1 e2 ⊢
  have en : N / d = n' := by rw [e1, Nat.mul_div_cancel _ hd]
  rw [en]
  have hn' : 1 ≤ n' := by
    rcases Nat.eq_zero_or_pos n' with e | e
    · rw [e, Nat.zero_mul] at e1; omega
    · exact e
  refine ⟨hn', ?_, fun k k1 k2 e => ?_⟩
  · rw [← pw_mul, ord_dvd h]
    exact ⟨l', by rw [e1, e2]; ac_rfl⟩
  · rw [← pw_mul, ord_dvd h, e1, e2] at e
    obtain ⟨c, hc'⟩ := e
    have h2 : n' ∣ l' * k := ⟨c, Nat.eq_of_mul_eq_mul_left hd (by
      have a1 : d * (l' * k) = l' * d * k := by ac_rfl
      have a2 : d * (n' * c) = n' * d * c := by ac_rfl
      rw [a1, a2, hc'])⟩
    have h3 := Nat.Coprime.dvd_of_dvd_mul_left hc h2
    have := Nat.le_of_dvd k1 h3
    omega

/-- The order, by the logarithm. -/
def ordG (G : GFd) (x : Int) : Nat := (G.q.toNat - 1) / Nat.gcd (G.q.toNat - 1) (logG G (inn G.q x)).toNat
/-- Repeated products. -/
def rpG (G : GFd) (x : Int) : Nat → Int
  | 0 => 1
  | n + 1 => mulG G (rpG G x n) x

namespace Tabs
variable {G : GFd}
theorem e_gen (h : Tabs G) : ∃ g : Rs h.fs.mon, Ord g (G.q.toNat - 1) ∧ (∀ x, inn G.q x ≠ 0 → h.e x = pw g (logG G (inn G.q x)).toNat) := by
  obtain ⟨g, g1, g2, g3⟩ := h.e_exp
  obtain ⟨q1, q2, _⟩ := h.qb
  refine ⟨g, ⟨by omega, g1, fun k k1 k2 e => ?_⟩, fun x hx => (g3 x hx).2.2⟩
  have b1 := h.exp_bd (k : Int)
  have b0 := h.exp_bd 0
  have e2 : expG G (k : Int) = expG G 0 := h.e_eq ⟨b1.1, b1.2.1⟩ ⟨b0.1, b0.2.1⟩ (by
    rw [g2 _ (by omega), g2 _ (by omega)]
    simpa [pw_zero] using e)
  have hl := h.elen
  unfold expG at e2
  rw [Int.emod_eq_of_lt (by omega) (by omega), Int.emod_eq_of_lt (by omega) (by omega)] at e2
  have := nodup_getD h.end' (i := (k : Int).toNat) (j := (0 : Int).toNat) (by omega) (by simp; omega) e2
  simp at this
  omega
theorem ord_e (h : Tabs G) {x : Int} (hx : inn G.q x ≠ 0) : Ord (h.e x) (ordG G x) := by
  obtain ⟨g, g1, g2⟩ := h.e_gen
  rw [g2 x hx]
  exact ord_pow g1
theorem ord_dvd' (_h : Tabs G) (x : Int) : ordG G x ∣ G.q.toNat - 1 := Nat.div_dvd_of_dvd (Nat.gcd_dvd_left _ _)
theorem ord_pos (h : Tabs G) (x : Int) : 1 ≤ ordG G x := by
  have hN : 1 ≤ G.q.toNat - 1 := by have := h.qb; omega
  exact Nat.pos_of_dvd_of_pos (h.ord_dvd' x) hN
theorem ord_le (_h : Tabs G) (x : Int) : ordG G x ≤ G.q.toNat - 1 := Nat.div_le_self _ _
theorem rp_bd (h : Tabs G) (x : Int) : ∀ n, 0 ≤ rpG G x n ∧ rpG G x n < G.q
  | 0 => by have := h.qb; exact ⟨by show (0 : Int) ≤ 1; omega, by show (1 : Int) < G.q; omega⟩
  | n + 1 => h.mul_bd _ _
theorem e_rp (h : Tabs G) (x : Int) : ∀ n, h.e (rpG G x n) = pw (h.e x) n
  | 0 => h.e_one
  | n + 1 => by rw [rpG, e_mul, e_rp h x n, pw_succ]
theorem rp_one (h : Tabs G) (x : Int) : rpG G x 1 = inn G.q x := h.e_eq (h.rp_bd x 1) (inn_bd (by have := h.qb; omega) x) (by rw [e_rp, pw_one, e_inn])
theorem rp_inn (h : Tabs G) (x : Int) : ∀ n, rpG G (inn G.q x) n = rpG G x n := fun n => h.e_eq (h.rp_bd _ n) (h.rp_bd _ n) (by rw [e_rp, e_rp, e_inn])
/-- Among the first powers, 1 is the last. -/
theorem rp_one_iff (h : Tabs G) {x : Int} (hx : inn G.q x ≠ 0) {n : Nat} (h1 : 1 ≤ n) (h2 : n ≤ ordG G x) : rpG G x n = 1 ↔ n = ordG G x := by
  have ho := h.ord_e hx
  have q1 := h.qb
  constructor
  · intro e
    have e2 : pw (h.e x) n = 1 := by rw [← h.e_rp, e, e_one]
    rcases Nat.lt_or_ge n (ordG G x) with g | g
    · exact absurd e2 (ho.2.2 n h1 g)
    · omega
  · rintro rfl
    exact h.e_eq (h.rp_bd _ _) ⟨by omega, by omega⟩ (by rw [e_rp, ho.2.1, e_one])
theorem rp_pow (h : Tabs G) {x : Int} (hx : inn G.q x ≠ 0) (n : Int) : rpG G x (n % (G.q - 1)).toNat = powG G x n := by
  have b := h.pow_bd x n
  exact h.e_eq (h.rp_bd _ _) ⟨b.1, b.2.1⟩ (by rw [e_rp, h.e_pow hx])

/-- The logarithms of all elements but 0 are all exponents. -/
theorem log_perm (h : Tabs G) : List.Perm ((List.range (G.q.toNat - 1)).map fun i : Nat => (logG G (((i + 1 : Nat) : Int))).toNat) (List.range (G.q.toNat - 1)) := by
  obtain ⟨q1, q2, _⟩ := h.qb
  have hinn : ∀ i : Nat, i < G.q.toNat - 1 → inn G.q ((i + 1 : Nat) : Int) = ((i + 1 : Nat) : Int) := fun i hi => inn_yes (by omega)
  have hel := h.elen
  have hnd : ((List.range (G.q.toNat - 1)).map fun i : Nat => (logG G (((i + 1 : Nat) : Int))).toNat).Nodup := by
    rw [List.nodup_iff_pairwise_ne, List.pairwise_map]
    refine List.Pairwise.imp_of_mem (R := fun x y => x < y) (fun {x y} hx hy hxy e => ?_) List.pairwise_lt_range
    have hx' := List.mem_range.1 hx
    have hy' := List.mem_range.1 hy
    obtain ⟨i, i1, i2, i3⟩ := h.logOf (z := ((x + 1 : Nat) : Int)) (by omega) (by omega)
    obtain ⟨j, j1, j2, j3⟩ := h.logOf (z := ((y + 1 : Nat) : Int)) (by omega) (by omega)
    unfold logG at e
    rw [i3, j3] at e
    have : i = j := by omega
    rw [this] at i2
    rw [i2] at j2
    omega
  refine (List.perm_ext_iff_of_nodup hnd List.nodup_range).2 fun l => ⟨fun hl => ?_, fun hl => ?_⟩
  · obtain ⟨i, hi, rfl⟩ := List.mem_map.1 hl
    have hi' := List.mem_range.1 hi
    have := h.log_bd (z := ((i + 1 : Nat) : Int)) (by omega) (by omega)
    refine List.mem_range.2 ?_
    unfold logG
    omega
  · have hl' := List.mem_range.1 hl
    have hb := h.ebd (G.exp.getD l 0) (by simp only [List.getD, List.getElem?_eq_getElem (show l < G.exp.length by omega), Option.getD_some]; exact List.getElem_mem _)
    have := h.log l (by omega)
    refine List.mem_map.2 ⟨(G.exp.getD l 0).toNat - 1, List.mem_range.2 (by omega), ?_⟩
    have e : (((G.exp.getD l 0).toNat - 1 + 1 : Nat) : Int) = G.exp.getD l 0 := by omega
    rw [e]
    unfold logG
    omega
end Tabs

/-- Multiples of d below n * d. -/
theorem countP_mul (Q : Nat → Bool) {d : Nat} (hd : 0 < d) : ∀ n, (List.range (n * d)).countP (fun l => decide (l % d = 0) && Q (l / d)) = (List.range n).countP Q
  | 0 => by simp
  | n + 1 => by
    rw [Nat.succ_mul, List.range_add, List.countP_append, countP_mul Q hd n, List.range_succ, List.countP_append, List.countP_map]
    congr 1
    obtain ⟨e, rfl⟩ : ∃ e, d = e + 1 := ⟨d - 1, by omega⟩
    rw [List.range_succ_eq_map, List.countP_cons, List.countP_map, List.countP_singleton]
    have h0 : List.countP ((((fun l => decide (l % (e + 1) = 0) && Q (l / (e + 1))) ∘ fun x => n * (e + 1) + x)) ∘ Nat.succ) (List.range e) = 0 := by
      rw [List.countP_eq_zero]
      intro a ha
      have ha' := List.mem_range.1 ha
      have : (n * (e + 1) + (a + 1)) % (e + 1) = a + 1 := by
        rw [Nat.mul_comm, Nat.mul_add_mod, Nat.mod_eq_of_lt (by omega)]
      simp [Function.comp, this]
    rw [h0, Nat.zero_add]
    simp [Function.comp, Nat.mul_div_cancel _ hd]
theorem countP_shift (n : Nat) : (List.range n).countP (fun i => decide (Nat.gcd n i = 1)) = (List.range n).countP (fun i => decide (Nat.gcd (i + 1) n = 1)) := by
  have e1 : (List.range (n + 1)).countP (fun i => decide (Nat.gcd n i = 1)) = (List.range n).countP (fun i => decide (Nat.gcd n i = 1)) + (if n = 1 then 1 else 0) := by
    rw [List.range_succ, List.countP_append, List.countP_singleton]
    simp
  have e2 : (List.range (n + 1)).countP (fun i => decide (Nat.gcd n i = 1)) = (List.range n).countP (fun i => decide (Nat.gcd (i + 1) n = 1)) + (if n = 1 then 1 else 0) := by
    rw [List.range_succ_eq_map, List.countP_cons, List.countP_map]
    congr 1
    · exact List.countP_congr fun x _ => by simp [Function.comp, Nat.gcd_comm n]
    · simp
  omega
/-- How many of the numbers from 1 to k have no divisor in common with n. -/
def cntC (n k : Nat) : Nat := (List.range k).countP fun i => decide (Nat.gcd (i + 1) n = 1)
/-- How many of the elements from 1 to k have the order n. -/
def cntO (G : GFd) (n k : Nat) : Nat := (List.range k).countP fun i => decide (ordG G ((i + 1 : Nat) : Int) = n)
theorem cntC_zero (n : Nat) : cntC n 0 = 0 := rfl
theorem cntC_succ (n k : Nat) : cntC n (k + 1) = cntC n k + if Nat.gcd (k + 1) n = 1 then 1 else 0 := by
  unfold cntC
  rw [List.range_succ, List.countP_append, List.countP_singleton]
  simp
theorem cntC_le (n k : Nat) : cntC n k ≤ k := by unfold cntC; exact Nat.le_trans List.countP_le_length (by simp)
theorem cntO_succ (G : GFd) (n k : Nat) : cntO G n (k + 1) = cntO G n k + if ordG G ((k + 1 : Nat) : Int) = n then 1 else 0 := by
  unfold cntO
  rw [List.range_succ, List.countP_append, List.countP_singleton]
  simp
theorem cntO_le (G : GFd) (n k : Nat) : cntO G n k ≤ k := by unfold cntO; exact Nat.le_trans List.countP_le_length (by simp)
theorem gcd_quo {n d l : Nat} (hn : 0 < n) (hd : 0 < d) : n * d / Nat.gcd (n * d) l = n ↔ l % d = 0 ∧ Nat.gcd n (l / d) = 1 := by
  have hnd : 0 < n * d := Nat.mul_pos hn hd
  have hg : 0 < Nat.gcd (n * d) l := Nat.gcd_pos_of_pos_left _ hnd
  constructor
  · intro e
    have h1 := Nat.div_mul_cancel (Nat.gcd_dvd_left (n * d) l)
    rw [e] at h1
    have h2 : Nat.gcd (n * d) l = d := Nat.eq_of_mul_eq_mul_left hn h1
    have h3 : d ∣ l := by rw [← h2]; exact Nat.gcd_dvd_right _ _
    obtain ⟨c, rfl⟩ := h3
    refine ⟨Nat.mul_mod_right d c, ?_⟩
    rw [Nat.mul_div_cancel_left _ hd]
    rw [Nat.mul_comm n d, Nat.gcd_mul_left] at h2
    exact Nat.eq_of_mul_eq_mul_left hd (by rw [h2, Nat.mul_one])
  · rintro ⟨h1, h2⟩
    obtain ⟨c, rfl⟩ := Nat.dvd_of_mod_eq_zero h1
    rw [Nat.mul_div_cancel_left _ hd] at h2
    rw [Nat.mul_comm n d, Nat.gcd_mul_left, h2, Nat.mul_one, Nat.mul_comm, Nat.mul_div_cancel _ hd]
namespace Tabs
variable {G : GFd}
/-- There are phi(n) elements of the order n. -/
theorem count (h : Tabs G) {n : Nat} (hn : 0 < n) : cntO G n (G.q.toNat - 1) = if n ∣ G.q.toNat - 1 then cntC n n else 0 := by
  obtain ⟨q1, q2, _⟩ := h.qb
  obtain ⟨N, hN⟩ : ∃ N, N = G.q.toNat - 1 := ⟨_, rfl⟩
  have hN1 : 1 ≤ N := by omega
  have hp := h.log_perm
  rw [← hN] at hp ⊢
  have e1 : cntO G n N = (List.range N).countP (fun l => decide (N / Nat.gcd N l = n)) := by
    rw [← hp.countP_eq, List.countP_map]
    unfold cntO
    refine List.countP_congr fun i hi => ?_
    have hi' := List.mem_range.1 hi
    simp only [Function.comp, decide_eq_true_eq]
    unfold ordG
    rw [inn_yes (by omega), ← hN]
  rw [e1]
  by_cases hd : n ∣ N
  · obtain ⟨d, hdd⟩ := hd
    have hd0 : 0 < d := by rcases Nat.eq_zero_or_pos d with e | e
                           · rw [e, Nat.mul_zero] at hdd; omega
                           · exact e
    rw [if_pos ⟨d, hdd⟩, hdd]
    unfold cntC
    rw [← countP_shift, ← countP_mul (fun i => decide (Nat.gcd n i = 1)) hd0 n]
    refine List.countP_congr fun l _ => ?_
    rw [decide_eq_true_eq, gcd_quo hn hd0]
    simp
  · rw [if_neg hd, List.countP_eq_zero]
    intro l _ e
    rw [decide_eq_true_eq] at e
    exact hd (by rw [← e]; exact Nat.div_dvd_of_dvd (Nat.gcd_dvd_left _ _))
/-- Some element's order is that of the group. -/
theorem full (h : Tabs G) : 0 < cntO G (G.q.toNat - 1) (G.q.toNat - 1) := by
  have hN : 1 ≤ G.q.toNat - 1 := by have := h.qb; omega
  rw [h.count hN, if_pos (Nat.dvd_refl _)]
  unfold cntC
  rw [List.countP_pos_iff]
  exact ⟨0, List.mem_range.2 hN, by simp⟩
end Tabs
end Cw
