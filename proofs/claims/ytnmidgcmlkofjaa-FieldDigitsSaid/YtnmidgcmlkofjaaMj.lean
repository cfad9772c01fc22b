/- Powers by tables. Plain algebra, no program in sight. No conditions. -/
import Derived.Test.YtnmidgcmlkofjaaMi
namespace Cw
open Rg Fd PS

namespace Zp
variable {R : PrS}
theorem all (R : PrS) : ∃ l : List (Zp R), All l ∧ l.length = R.p.toNat := by
  have h2 := R.two
  refine ⟨(List.range R.p.toNat).map fun i : Nat => mk' R i, ⟨?_, fun a => ?_⟩, by simp⟩
  · rw [List.nodup_iff_pairwise_ne, List.pairwise_map]
    refine List.Pairwise.imp_of_mem (R := fun x y => x < y) (fun {x y} hx hy hxy e => ?_) List.pairwise_lt_range
    have h1 := List.mem_range.1 hx
    have h2 := List.mem_range.1 hy
    have := mk_eq.1 e
    rw [Int.emod_eq_of_lt (by omega) (by omega), Int.emod_eq_of_lt (by omega) (by omega)] at this
    omega
  · have h0 := a.lo
    have h1 := a.hi
    exact List.mem_map.2 ⟨a.v.toNat, List.mem_range.2 (by omega), by rw [Int.toNat_of_nonneg h0, mk_of]⟩
end Zp

namespace FS
/-- A constant. -/
def cst (S : FS) (z : Zp S.R) : Rs S.mon := ⟨C z, dl_mono (dl_C z) S.hm⟩
theorem cst_one (S : FS) : S.cst 1 = 1 := rfl
theorem cst_mul (S : FS) (a b : Zp S.R) : S.cst (a * b) = S.cst a * S.cst b := (Rs.mul_eq (by show Rs.Cg S.mon (C a * C b) (C (a * b)); rw [C_mul]; exact Rs.cg_refl _)).symm
theorem cst_add (S : FS) (a b : Zp S.R) : S.cst (a + b) = S.cst a + S.cst b := Rs.ext (C_add a b)
theorem cst_inj (S : FS) {a b : Zp S.R} (h : S.cst a = S.cst b) : a = b := by
  have := congrArg (fun r : Rs S.mon => r.a 0) h
  simpa [cst, C_at] using this
theorem cst_pw (S : FS) (a : Zp S.R) (n : Nat) : S.cst (pw a n) = pw (S.cst a) n := by
  induction n with
  | zero => rfl
  | succ n ih => rw [pw_succ, cst_mul, ih, pw_succ]
theorem frob (S : FS) (hi : Rs.Irr S.mon) (x y : Rs S.mon) : pw (x + y) S.P.toNat = pw x S.P.toNat + pw y S.P.toNat := by
  obtain ⟨l, l1, l2⟩ := Zp.all S.R
  have l2' : l.length = S.P.toNat := l2
  have hf : ∀ z : Zp S.R, pw (S.cst z) S.P.toNat = S.cst z := fun z => by
    rw [← cst_pw, ← l2', fermat' l1]
  have hp := S.pr.1
  refine Cw.frob (α := Rs (S.imon hi).F) (l := l.map S.cst) (p := S.P.toNat) (by omega) ?_ ((List.length_map (f := S.cst) (as := l)).trans l2') (fun z hz => ?_) (fun z hz => ?_) x y
  · have h3 := l1.nd
    rw [List.nodup_iff_pairwise_ne] at h3
    show (l.map S.cst).Nodup
    rw [List.nodup_iff_pairwise_ne, List.pairwise_map]
    exact h3.imp fun hab e => hab (S.cst_inj e)
  · obtain ⟨a, _, rfl⟩ := List.mem_map.1 hz
    exact hf a
  · obtain ⟨a, _, rfl⟩ := List.mem_map.1 hz
    have := hf (a + 1)
    rw [cst_add, cst_one] at this
    exact this
end FS

namespace Tabs
variable {G : GFd}
theorem frob (h : Tabs G) (x y : Rs h.fs.mon) : pw (x + y) G.P.toNat = pw x G.P.toNat + pw y G.P.toNat := h.fs.frob h.irr x y
theorem e_fermat (h : Tabs G) {x : Int} (hx : inn G.q x ≠ 0) : pw (h.e x) (G.q.toNat - 1) = 1 := by
  obtain ⟨g, g1, _, g3⟩ := h.e_exp
  rw [(g3 x hx).2.2, ← pw_mul, Nat.mul_comm, pw_mul, g1, one_pw]
/-- The power. -/
theorem e_pow (h : Tabs G) {x : Int} (hx : inn G.q x ≠ 0) (n : Int) : h.e (powG G x n) = pw (h.e x) (n % (G.q - 1)).toNat := by
  obtain ⟨g, g1, g2, g3⟩ := h.e_exp
  obtain ⟨q1, q2, _⟩ := h.qb
  obtain ⟨a0, a1, a2⟩ := g3 x hx
  have m0 := Int.emod_nonneg n (show G.q - 1 ≠ 0 by omega)
  unfold powG
  rw [g2 _ (Int.mul_nonneg a0 m0), a2, ← pw_mul, Int.toNat_mul a0 m0]
theorem e_pow_nat (h : Tabs G) {x : Int} (hx : inn G.q x ≠ 0) (n : Nat) : h.e (powG G x n) = pw (h.e x) n := by
  obtain ⟨q1, q2, _⟩ := h.qb
  rw [h.e_pow hx, pw_mod (h.e_fermat hx) n]
  congr 1
  have : G.q - 1 = ((G.q.toNat - 1 : Nat) : Int) := by omega
  rw [this, ← Int.natCast_emod, Int.toNat_natCast]
theorem pow_bd (h : Tabs G) (x n : Int) : 0 ≤ powG G x n ∧ powG G x n < G.q ∧ powG G x n ≠ 0 := h.exp_bd _
end Tabs
end Cw
namespace Cw
open Rg Fd PS
/-- The power with a positive exponent, of 0 too. -/
def powZ (G : GFd) (x n : Int) : Int := if inn G.q x = 0 then 0 else powG G x n
namespace Tabs
variable {G : GFd}
theorem powZ_bd (h : Tabs G) (x n : Int) : 0 ≤ powZ G x n ∧ powZ G x n < G.q := by
  unfold powZ
  split
  · have := h.qb; omega
  · have := h.pow_bd x n; omega
theorem e_powZ (h : Tabs G) (x : Int) {n : Int} (hn : 0 < n) : h.e (powZ G x n) = pw (h.e x) n.toNat := by
  unfold powZ
  split
  · rename_i hx
    rw [h.e_nz.2 hx, e_zero, zero_pw (by omega)]
  · rename_i hx
    have := h.e_pow_nat hx n.toNat
    rwa [Int.toNat_of_nonneg (by omega)] at this
/-- The law of Frobenius. -/
theorem frobZ (h : Tabs G) (x y : Int) : powZ G (addG G x y) G.P = addG G (powZ G x G.P) (powZ G y G.P) := by
  have hP : 0 < G.P := by have := h.qb; omega
  refine h.e_eq (h.powZ_bd _ _) (h.add_bd _ _) ?_
  rw [e_add, h.e_powZ _ hP, h.e_powZ _ hP, h.e_powZ _ hP, e_add, h.frob]
theorem fermatZ (h : Tabs G) (x : Int) : powZ G x G.q = inn G.q x := by
  have hq : 0 < G.q := by have := h.qb; omega
  refine h.e_eq (h.powZ_bd _ _) (inn_bd hq x) ?_
  rw [h.e_powZ _ hq, e_inn]
  by_cases hx : inn G.q x = 0
  · rw [h.e_nz.2 hx, zero_pw (by omega)]
  · rw [show G.q.toNat = G.q.toNat - 1 + 1 by omega, pw_succ, h.e_fermat hx, one_mul]
end Tabs
end Cw
