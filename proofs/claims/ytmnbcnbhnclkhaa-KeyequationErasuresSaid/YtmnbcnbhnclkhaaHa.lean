/- The walks of gap, isRegister and Holds of registers. Conditions: the field lies in memory with its tables; lengths are bounded. -/
import Derived.Test.YtmnbcnbhnclkhaaKx
import Derived.Test.YtmnbcnbhnclkhaaMwA
namespace Go.Proofs.Ytmnbcnbhnclkhaa
open Go.RowKit Cw

/-- The sum of the first k terms of a register's gap. -/
def gpS (G : GFd) (c s : List Int) (j : Nat) : Nat → Int
  | 0 => 0
  | k + 1 => if k ≤ j then addG G (gpS G c s j k) (mulG G (c.getD k 0) (s.getD (j - k) 0)) else gpS G c s j k
theorem gpS_bd {G : GFd} (t : Tabs G) (c s : List Int) (j : Nat) : ∀ k, 0 ≤ gpS G c s j k ∧ gpS G c s j k < G.q
  | 0 => by have := t.qb; unfold gpS; omega
  | k + 1 => by
    rw [gpS]
    split
    · exact t.add_bd _ _
    · exact gpS_bd t c s j k
theorem e_gpS {G : GFd} (t : Tabs G) (c s : List Int) (j : Nat) : ∀ k, t.e (gpS G c s j k) = Rg.sm k (fun i => if i ≤ j then t.e (c.getD i 0) * t.e (s.getD (j - i) 0) else 0)
  | 0 => t.e_zero
  | k + 1 => by
    rw [gpS, Rg.sm_succ]
    split
    · rw [t.e_add, t.e_mul, e_gpS t c s j k]
    · rw [e_gpS t c s j k, Rg.add_zero]
theorem e_gap {G : GFd} (t : Tabs G) (c s : List Int) (j : Nat) : t.e (gpS G c s j c.length) = ((t.pl c).a * t.po s) j := by
  rw [e_gpS, PS.mul_at]
  by_cases h : j + 1 ≤ c.length
  · rw [Rg.sm_short h (fun i h1 _ => by rw [if_neg (by omega)])]
    exact Rg.sm_congr fun i hi => by rw [if_pos (by omega)]; rfl
  · rw [Rg.sm_short (m := c.length) (n := j + 1) (by omega) (fun i h1 _ => by
      show t.e (c.getD i 0) * _ = 0
      rw [ld_out (by omega), t.e_zero, Rg.zero_mul])]
    exact Rg.sm_congr fun i hi => by rw [if_pos (by omega)]; rfl
theorem gap_zero {G : GFd} (t : Tabs G) (c s : List Int) (j : Nat) : gpS G c s j c.length = 0 ↔ ((t.pl c).a * t.po s) j = 0 := by
  rw [← e_gap]
  constructor
  · intro h; rw [h, t.e_zero]
  · intro h
    refine t.e_eq (gpS_bd t c s j _) ⟨by omega, by have := t.qb; omega⟩ ?_
    rw [h, t.e_zero]
set_option maxRecDepth 100000 in
set_option maxHeartbeats 2000000 in
theorem gap_any (b : Nat) (G : GFd) (t : Tabs G) (vc vs : Value) (c s : List Int) (j : Nat) (w : World) (hg : IsGF w b G) (hc : Sl w vc c) (hs : Sl w vs s) (hj : j < s.length) :
    Calls Try.prog 89 #[.pointer (some ⟨b, 0, none⟩), vc, vs, .int .i64 j] w fun e w' => e = .returned (.int .i64 (gpS G c s j c.length)) ∧ ∃ m, w' = w.drewN m := by
  obtain ⟨ac, capc, rfl, _, ⟨hcm, _⟩, hcc⟩ := hc
  obtain ⟨as', caps, rfl, hsc, ⟨hsm, _⟩, hcs⟩ := hs
  obtain ⟨bs, offs, rfl, _, hcells⟩ := hcs (by intro e; rw [e] at hj; simp at hj)
  unfold maxLen at hcm hsm
  have HCS := hid hcells
  clear hcs hcells
  go_enter Try.func89, Try.ntmps89
  go_wp2_with (fail)
  go_loopw [9, 14] (fun vy vi wr => ∃ k : Nat, k ≤ c.length ∧ vi = .int .i64 k ∧ vy = .int .i64 (gpS G c s j k) ∧ ∃ m, wr = w.drewN m) (fun _ vi _ => c.length - (intOf vi).toNat)
  case atStart => exact ⟨0, by omega, rfl, rfl, 0, rfl⟩
  case round =>
    obtain ⟨k, hk, rfl, rfl, m, hw⟩ := hrel
    have hgw : IsGF wr b G := by rw [hw]; exact hg.drewN m
    have hcw : ∀ a, wr.cell? a = w.cell? a := fun a => by rw [hw]; rfl
    have HW := hid hw
    clear hw
    by_cases hlt : k < c.length
    · obtain ⟨bc, offc, rfl, _, hcellc⟩ := hcc (by intro e; rw [e] at hlt; simp at hlt)
      have hck := (hcw _).trans (hcellc k hlt)
      obtain ⟨z, hz⟩ : ∃ z, z = c.getD k 0 := ⟨_, rfl⟩
      obtain ⟨y, hy⟩ : ∃ y, y = gpS G c s j k := ⟨_, rfl⟩
      have HZ := hid hz
      have HY := hid hy
      rw [← hz] at hck
      rw [← hy]
      have hki : (k : Int) < (c.length : Int) := by omega
      have k0 : (0 : Int) ≤ (k : Int) := by omega
      by_cases hkj : k ≤ j
      · obtain ⟨i, hi⟩ : ∃ i, j = k + i := ⟨j - k, by omega⟩
        have hcs := (hcw _).trans (HCS.out i (by omega))
        obtain ⟨u, hu⟩ : ∃ u, u = s.getD i 0 := ⟨_, rfl⟩
        rw [← hu] at hcs
        have hst : Hid (gpS G c s j (k + 1) = addG G y (mulG G z u)) := hid (by rw [gpS, if_pos hkj, hy, hz, hu, show j - k = i by omega])
        have e1 : (j : Int) - (k : Int) = (i : Int) := by omega
        have e2 : IntKind.i64.wrap ((j : Int) - (k : Int)) = (i : Int) := by rw [IntWalk.i64_in _ (by omega)]; exact e1
        have i0 : (0 : Int) ≤ (i : Int) := by omega
        have i1 : (i : Int) < (s.length : Int) := by omega
        have hkj' : (k : Int) ≤ (j : Int) := by omega
        clear hz hy hu hi hkj hcellc hcw
        go_wp2_with (first
          | (go_at_call 43; (with_reducible refine (mul_any b G z u _ hgw t).mono ?_); rintro e w3 ⟨rfl, n3, rfl⟩)
          | (go_at_call 42; (with_reducible refine (add_any b G y (mulG G z u) _ (hgw.drewN _) t).mono ?_); rintro e w4 ⟨rfl, n4, rfl⟩))
        go_roundw
        case rel => exact ⟨k + 1, by omega, by go_num, val_int hst.out.symm, _, by rw [HW.out, World.drewN_drewN]⟩
        case measure => simp [intOf]; omega
      · have hst : Hid (gpS G c s j (k + 1) = y) := hid (by rw [gpS, if_neg hkj, hy])
        have hkj' : (j : Int) < (k : Int) := by omega
        clear hz hy hkj hcellc hcw
        go_wp2_with (fail)
        go_roundw
        case rel => exact ⟨k + 1, by omega, by go_num, val_int hst.out.symm, _, HW.out⟩
        case measure => simp [intOf]; omega
    · obtain rfl : k = c.length := by omega
      clear hcw
      go_wp2_with (fail)
      go_ret
      exact ⟨rfl, m, HW.out⟩
/-- The Bool says whether p holds. -/
def BIf (b : Bool) (p : Prop) : Prop := b = true ↔ p
/-- What isRegister asks. -/
def RegL (c : List Int) (l : Int) : Prop := 0 ≤ l ∧ 0 < c.length ∧ c.getD 0 0 = 1 ∧ (c.length : Int) - 1 ≤ l
instance (c : List Int) (l : Int) : Decidable (RegL c l) := by unfold RegL; exact inferInstance
/-- What Holds says. -/
def HoldsP {G : GFd} (t : Tabs G) (c : List Int) (l : Int) (s : List Int) : Prop := 0 ≤ l ∧ Pl.Reg (t.pl c) l.toNat (t.po s) s.length
theorem holdsP_iff {G : GFd} (t : Tabs G) {c l1 : List Int} (l : Int) (s : List Int) (h1 : Cano G l1) (e : t.pl l1 = t.pl c) : HoldsP t c l s ↔ RegL l1 l ∧ ∀ j, l.toNat ≤ j → j < s.length → gpS G l1 s j l1.length = 0 := by
  have hq := t.qb
  have hl := t.can_ln' h1 e
  have h0 : (t.pl c).a 0 = 1 ↔ l1.getD 0 0 = 1 := by
    rw [← e, t.pl_at]
    constructor
    · intro h; exact t.e_eq (t.can_range' h1 0) ⟨by omega, by omega⟩ (by rw [h, t.e_one])
    · intro h; rw [h, t.e_one]
  have h2 : 0 < l1.length ∨ l1 = [] := by rcases l1 with _ | ⟨a, l⟩; exact .inr rfl; exact .inl (by simp)
  constructor
  · rintro ⟨g0, g1, g2, g3⟩
    refine ⟨⟨g0, ?_, h0.1 g1, by omega⟩, fun j j1 j2 => (gap_zero t l1 s j).2 (by rw [e]; exact g3 j j1 j2)⟩
    rcases h2 with h2 | h2
    · exact h2
    · have := h0.1 g1; rw [h2] at this; simp at this
  · rintro ⟨⟨g0, g1, g2, g3⟩, g4⟩
    exact ⟨g0, ⟨h0.2 g2, by omega, fun j j1 j2 => by rw [← e]; exact (gap_zero t l1 s j).1 (g4 j j1 j2)⟩⟩
end Go.Proofs.Ytmnbcnbhnclkhaa
