/- The standard field of an order, in plain terms. Plain algebra, no program in sight. No conditions. -/
import Derived.Test.YtnmidgcmlkofjaaMg
namespace Cw
open Rg Fd PS

/-- The standard description of the order q. -/
def StdIs (q p : Int) (m : Nat) (mod : List Int) : Prop :=
  Prm p ∧ 1 ≤ m ∧ m ≤ 8 ∧ p ^ m = q ∧ (m = 1 → mod = []) ∧ (m ≠ 1 → ∃ v : Nat, (v : Int) < q ∧ mod = digL p v m ∧ IrrP p mod ∧ ∀ u : Nat, u < v → ¬ IrrP p (digL p u m))

theorem least_prm {q d : Int} (h2 : 2 ≤ d) (hz : q % d = 0) (h : ∀ c : Int, 2 ≤ c → c < d → q % c ≠ 0) : Prm d := by
  refine ⟨h2, fun c c1 c2 e => h c c1 c2 ?_⟩
  obtain ⟨x, hx⟩ := Int.dvd_of_emod_eq_zero hz
  obtain ⟨y, hy⟩ := Int.dvd_of_emod_eq_zero e
  rw [hx, hy, Int.mul_assoc, Int.mul_emod_right]
theorem mk_pow (R : PrS) (x : Int) (n : Nat) : Zp.mk' R (x ^ n) = pw (Zp.mk' R x) n := by
  induction n with
  | zero => rw [Int.pow_zero]; rfl
  | succ n ih => rw [Int.pow_succ, ← Zp.mk_mul, ih, pw_succ]
theorem prm_dvd_pow {p p' : Int} {m : Nat} (hp : Prm p) (hp' : Prm p') (h : p' ^ m % p = 0) : p = p' := by
  have hz : Zp.mk' ⟨p, hp⟩ (p' ^ m) = 0 := Zp.mk_eq.2 (by
    show p' ^ m % p = 0 % p
    rw [h]; simp)
  have hp2 := hp.1
  have hp2' := hp'.1
  have h0 : p' % p = 0 := by
    refine Classical.byContradiction fun hn => ?_
    refine pw_ne (a := Zp.mk' ⟨p, hp⟩ p') (fun e => hn ?_) m (by rw [← mk_pow]; exact hz)
    have : p' % p = 0 % p := Zp.mk_eq.1 e
    rw [this]; simp
  rcases Int.lt_trichotomy p p' with g | g | g
  · exact absurd h0 (hp'.2 p hp2 g)
  · exact g
  · rw [Int.emod_eq_of_lt (by omega) g] at h0; omega
theorem pow_lt {p : Int} (hp : 2 ≤ p) {i j : Nat} (h : i < j) : p ^ i < p ^ j := by
  have h1 := pow_le (p := p) (by omega) (show i + 1 ≤ j by omega)
  have h0 : 0 < p ^ i := Int.pow_pos (by omega)
  rw [Int.pow_succ] at h1
  have h2 : p ^ i * 2 ≤ p ^ i * p := Int.mul_le_mul_of_nonneg_left hp (by omega)
  omega
theorem pow_inj {p : Int} (hp : 2 ≤ p) {i j : Nat} (h : p ^ i = p ^ j) : i = j := by
  rcases Nat.lt_trichotomy i j with g | g | g
  · have := pow_lt hp g; omega
  · exact g
  · have := pow_lt hp g; omega
theorem pow_mod_self {p : Int} {m : Nat} (hm : 1 ≤ m) : p ^ m % p = 0 := by
  obtain ⟨k, rfl⟩ : ∃ k, m = k + 1 := ⟨m - 1, by omega⟩
  rw [Int.pow_succ, Int.mul_emod_left]
theorem std_base {q p p' : Int} {m m' : Nat} {mod mod' : List Int} (h : StdIs q p m mod) (h' : StdIs q p' m' mod') : p = p' ∧ m = m' := by
  obtain ⟨a1, a2, a3, a4, _⟩ := h
  obtain ⟨b1, b2, b3, b4, _⟩ := h'
  have e : p = p' := prm_dvd_pow (m := m') a1 b1 (by rw [b4, ← a4]; exact pow_mod_self a2)
  subst e
  exact ⟨rfl, pow_inj a1.1 (by rw [a4, b4])⟩
theorem std_unique {q p p' : Int} {m m' : Nat} {mod mod' : List Int} (h : StdIs q p m mod) (h' : StdIs q p' m' mod') : p = p' ∧ m = m' ∧ mod = mod' := by
  obtain ⟨rfl, rfl⟩ := std_base h h'
  refine ⟨rfl, rfl, ?_⟩
  obtain ⟨_, _, _, _, a5, a6⟩ := h
  obtain ⟨_, _, _, _, b5, b6⟩ := h'
  by_cases e : m = 1
  · rw [a5 e, b5 e]
  · obtain ⟨v, v1, v2, v3, v4⟩ := a6 e
    obtain ⟨u, u1, u2, u3, u4⟩ := b6 e
    rw [v2] at v3
    rw [u2] at u3
    have : v = u := by
      rcases Nat.lt_trichotomy v u with g | g | g
      · exact absurd v3 (u4 v g)
      · exact g
      · exact absurd u3 (v4 u g)
    rw [v2, u2, this]
/-- The least divisor of a power of a prime is that prime. -/
theorem std_least {q d p : Int} {m : Nat} {mod : List Int} (hd : Prm d) (hz : q % d = 0) (h : StdIs q p m mod) : d = p := by
  obtain ⟨a1, a2, a3, a4, _⟩ := h
  exact prm_dvd_pow (m := m) hd a1 (by rw [a4]; exact hz)
theorem ordS_pow {p : Int} {m : Nat} (h2 : 2 ≤ p) (h1 : 1 ≤ m) (h8 : m ≤ 8) (hq : p ^ m ≤ 256) : ordS p m = p ^ m := by
  have hp : p ^ 1 ≤ p ^ m := pow_le (by omega) h1
  rw [Int.pow_one] at hp
  have e : (m : Int).toNat = m := by omega
  rw [ordS_yes h2 (by omega) (by omega) (by omega) (by rw [e]; exact hq), e]
theorem ordS_std {q p : Int} {m : Nat} {mod : List Int} (h : StdIs q p m mod) (hq : q ≤ 256) : ordS p m = q := by
  obtain ⟨a1, a2, a3, a4, _⟩ := h
  rw [ordS_pow a1.1 a2 a3 (by omega), a4]
theorem ordS_eq {p q : Int} {m : Nat} (h : ordS p m = q) (hq : q ≠ 0) : p ^ m = q ∧ 2 ≤ p ∧ p ≤ 256 ∧ 1 ≤ m ∧ m ≤ 8 := by
  obtain ⟨o1, o2, o3, o4, o5, o6⟩ := ordS_pos (p := p) (m := m) (by rw [h]; exact hq)
  have e : (m : Int).toNat = m := by omega
  rw [e] at o6
  exact ⟨by rw [← o6, h], o1, o2, by omega, by omega⟩
/-- None, where the program's search for the exponent fails. -/
theorem std_none {q d : Int} {m : Nat} (hd : Prm d) (hz : q % d = 0) (hq0 : 2 ≤ q) (hq : q ≤ 256) (hlo : ∀ k : Nat, 1 ≤ k → k < m → ordS d k < q) (hm : m = 8 ∨ q ≤ ordS d m) (hne : ordS d m ≠ q) (p : Int) (m' : Nat) (mod : List Int) : ¬ StdIs q p m' mod := fun h => by
  have e := std_least hd hz h
  subst e
  have ho := ordS_std h hq
  obtain ⟨a1, a2, a3, a4, _⟩ := h
  rcases Nat.lt_trichotomy m' m with g | g | g
  · have := hlo m' a2 g; omega
  · subst g; exact hne ho
  · rcases hm with e8 | e8
    · omega
    · have h0 : ordS d m ≠ 0 := by omega
      obtain ⟨b1, _⟩ := ordS_eq (q := ordS d m) rfl h0
      have := pow_lt a1.1 g
      omega
theorem shape_dig {p : Int} {m : Nat} (hp : Prm p) (h1 : 1 < m) (hq : ordS p m ≠ 0) (v : Nat) : ShapeP p m (digL p v m) := by
  refine ⟨hq, hp, fun e => by omega, fun _ => ⟨by rw [length_digL], digs_digL (by have := hp.1; omega) m⟩⟩
theorem field_dig {p : Int} {m : Nat} (hp : Prm p) (h1 : 1 < m) (hq : ordS p m ≠ 0) (v : Nat) : FieldP p m (digL p v m) ↔ IrrP p (digL p v m) := by
  rw [field_check]
  exact ⟨fun h => h.2 (by omega), fun h => ⟨shape_dig hp h1 hq v, fun _ => h⟩⟩
/-- None, where no polynomial is irreducible. -/
theorem std_none_irr {q p : Int} {m : Nat} (hp : Prm p) (hm1 : m ≠ 1) (h1 : 1 ≤ m) (hpm : p ^ m = q) (hno : ∀ u : Nat, (u : Int) < q → ¬ IrrP p (digL p u m)) (p' : Int) (m' : Nat) (mod : List Int) : ¬ StdIs q p' m' mod := fun h => by
  have e : p = p' := prm_dvd_pow (m := m') hp h.1 (by rw [h.2.2.2.1, ← hpm]; exact pow_mod_self h1)
  subst e
  have e2 : m = m' := pow_inj hp.1 (by rw [hpm, h.2.2.2.1])
  subst e2
  obtain ⟨v, v1, v2, v3, _⟩ := h.2.2.2.2.2 hm1
  rw [v2] at v3
  exact hno v v1 v3
end Cw
