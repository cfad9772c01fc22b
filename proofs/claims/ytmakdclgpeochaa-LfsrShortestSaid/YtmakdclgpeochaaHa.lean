/- The walks of gap, isRegister and Holds of registers. Conditions: the field lies in memory with its tables; lengths are bounded. -/
import Derived.Test.YtmakdclgpeochaaKx
import Derived.Test.YtmakdclgpeochaaMwA
namespace Go.Proofs.Ytmakdclgpeochaa
open Go.RowKit Cw

/-- The sum of the first k terms of a register's gap. -/
def gpS (G : GFd) (c s : List Int) (j : Nat) : Nat → Int
  | 0 => 0
  | k + 1 => if k ≤ j then addG G (gpS G c s j k) (mulG G (c.getD k 0) (s.getD (j - k) 0)) else gpS G c s j k
theorem gpS_bd {G : GFd} (t : Tabs G) (c s : List Int) (j : Nat) : ∀ k, 0 ≤ gpS G c s j k ∧ gpS G c s j k < G.q
  | 0 => by have := t.qb; unfold gpS; omega
  | k + 1 => by
    rw [gpS]
    split
    · exact t.add_bd _ _
    · exact gpS_bd t c s j k
theorem e_gpS {G : GFd} (t : Tabs G) (c s : List Int) (j : Nat) : ∀ k, t.e (gpS G c s j k) = Rg.sm k (fun i => if i ≤ j then t.e (c.getD i 0) * t.e (s.getD (j - i) 0) else 0)
  | 0 => t.e_zero
  | k + 1 => by
    rw [gpS, Rg.sm_succ]
    split
    · rw [t.e_add, t.e_mul, e_gpS t c s j k]
    · rw [e_gpS t c s j k, Rg.add_zero]
theorem e_gap {G : GFd} (t : Tabs G) (c s : List Int) (j : Nat) : t.e (gpS G c s j c.length) = ((t.pl c).a * t.po s) j := by
  rw [e_gpS, PS.mul_at]
  by_cases h : j + 1 ≤ c.length
  · rw [Rg.sm_short h (fun i h1 _ => by rw [if_neg (by omega)])]
    exact Rg.sm_congr fun i hi => by rw [if_pos (by omega)]; rfl
  · rw [Rg.sm_short (m := c.length) (n := j + 1) (by omega) (fun i h1 _ => by
      show t.e (c.getD i 0) * _ = 0
      rw [ld_out (by omega), t.e_zero, Rg.zero_mul])]
    exact Rg.sm_congr fun i hi => by rw [if_pos (by omega)]; rfl
theorem gap_zero {G : GFd} (t : Tabs G) (c s : List Int) (j : Nat) : gpS G c s j c.length = 0 ↔ ((t.pl c).a * t.po s) j = 0 := by
  rw [← e_gap]
  constructor
  · intro h; rw [h, t.e_zero]
  · intro h
    refine t.e_eq (gpS_bd t c s j _) ⟨by omega, by have := t.qb; omega⟩ ?_
    rw [h, t.e_zero]
set_option maxRecDepth 100000 in
set_option maxHeartbeats 2000000 in
theorem gap_any (b : Nat) (G : GFd) (t : Tabs G) (vc vs : Value) (c s : List Int) (j : Nat) (w : World) (hg : IsGF w b G) (hc : Sl w vc c) (hs : Sl w vs s) (hj : j < s.length) :
    Calls Try.prog 44 #[.pointer (some ⟨b, 0, none⟩), vc, vs, .int .i64 j] w fun e w' => e = .returned (.int .i64 (gpS G c s j c.length)) ∧ ∃ m, w' = w.drewN m := by
  obtain ⟨ac, capc, rfl, _, ⟨hcm, _⟩, hcc⟩ := hc
  obtain ⟨as', caps, rfl, hsc, ⟨hsm, _⟩, hcs⟩ := hs
  obtain ⟨bs, offs, rfl, _, hcells⟩ := hcs (by intro e; rw [e] at hj; simp at hj)
  unfold maxLen at hcm hsm
  have HCS := hid hcells
  clear hcs hcells
  go_enter Try.func44, Try.ntmps44
  go_wp2_with (fail)
  go_loopw [9, 14] (fun vy vi wr => ∃ k : Nat, k ≤ c.length ∧ vi = .int .i64 k ∧ vy = .int .i64 (gpS G c s j k) ∧ ∃ m, wr = w.drewN m) (fun _ vi _ => c.length - (intOf vi).toNat)
  case atStart => exact ⟨0, by omega, rfl, rfl, 0, rfl⟩
  case round =>
    obtain ⟨k, hk, rfl, rfl, m, hw⟩ := hrel
    have hgw : IsGF wr b G := by rw [hw]; exact hg.drewN m
    have hcw : ∀ a, wr.cell? a = w.cell? a := fun a => by rw [hw]; rfl
    have HW := hid hw
    clear hw
    by_cases hlt : k < c.length
    · obtain ⟨bc, offc, rfl, _, hcellc⟩ := hcc (by intro e; rw [e] at hlt; simp at hlt)
      have hck := (hcw _).trans (hcellc k hlt)
      obtain ⟨z, hz⟩ : ∃ z, z = c.getD k 0 := ⟨_, rfl⟩
      obtain ⟨y, hy⟩ : ∃ y, y = gpS G c s j k := ⟨_, rfl⟩
      have HZ := hid hz
      have HY := hid hy
      rw [← hz] at hck
      rw [← hy]
      have hki : (k : Int) < (c.length : Int) := by omega
      have k0 : (0 : Int) ≤ (k : Int) := by omega
      by_cases hkj : k ≤ j
      · obtain ⟨i, hi⟩ : ∃ i, j = k + i := ⟨j - k, by omega⟩
        have hcs := (hcw _).trans (HCS.out i (by omega))
        obtain ⟨u, hu⟩ : ∃ u, u = s.getD i 0 := ⟨_, rfl⟩
        rw [← hu] at hcs
        have hst : Hid (gpS G c s j (k + 1) = addG G y (mulG G z u)) := hid (by rw [gpS, if_pos hkj, hy, hz, hu, show j - k = i by omega])
        have e1 : (j : Int) - (k : Int) = (i : Int) := by omega
        have e2 : IntKind.i64.wrap ((j : Int) - (k : Int)) = (i : Int) := by rw [IntWalk.i64_in _ (by omega)]; exact e1
        have i0 : (0 : Int) ≤ (i : Int) := by omega
        have i1 : (i : Int) < (s.length : Int) := by omega
        have hkj' : (k : Int) ≤ (j : Int) := by omega
        clear hz hy hu hi hkj hcellc hcw
        go_wp2_with (first
          | (go_at_call 62; (with_reducible refine (mul_any b G z u _ hgw t).mono ?_); rintro e w3 ⟨rfl, n3, rfl⟩)
          | (go_at_call 45; (with_reducible refine (add_any b G y (mulG G z u) _ (hgw.drewN _) t).mono ?_); rintro e w4 ⟨rfl, n4, rfl⟩))
        go_roundw
        case rel => exact ⟨k + 1, by omega, by go_num, val_int hst.out.symm, _, by rw [HW.out, World.drewN_drewN]⟩
        case measure => simp [intOf]; omega
      · have hst : Hid (gpS G c s j (k + 1) = y) := hid (by rw [gpS, if_neg hkj, hy])
        have hkj' : (j : Int) < (k : Int) := by omega
        clear hz hy hkj hcellc hcw
        go_wp2_with (fail)
        go_roundw
        case rel => exact ⟨k + 1, by omega, by go_num, val_int hst.out.symm, _, HW.out⟩
        case measure => simp [intOf]; omega
    · obtain rfl : k = c.length := by omega
      clear hcw
      go_wp2_with (fail)
      go_ret
      exact ⟨rfl, m, HW.out⟩
/-- The Bool says whether p holds. -/
def BIf (b : Bool) (p : Prop) : Prop := b = true ↔ p
/-- What isRegister asks. -/
def RegL (c : List Int) (l : Int) : Prop := 0 ≤ l ∧ 0 < c.length ∧ c.getD 0 0 = 1 ∧ (c.length : Int) - 1 ≤ l
instance (c : List Int) (l : Int) : Decidable (RegL c l) := by unfold RegL; exact inferInstance
theorem isReg_any (vc : Value) (c : List Int) (l : Int) (w : World) (hc : Sl w vc c) :
    Calls Try.prog 43 #[vc, .int .i64 l] w fun e w' => e = .returned (.bool (decide (RegL c l))) ∧ w' = w := by
  obtain ⟨ac, capc, rfl, _, ⟨hcm, _⟩, hcc⟩ := hc
  unfold maxLen at hcm
  obtain ⟨r, hr⟩ : ∃ r, r = decide (RegL c l) := ⟨_, rfl⟩
  rw [← hr]
  by_cases h0 : 0 ≤ l
  case neg =>
    obtain rfl : r = false := by rw [hr]; exact decide_eq_false (fun h => h0 h.1)
    have h0' : l < 0 := by omega
    clear hr h0
    go_enter Try.func43, Try.ntmps43
    go_wp2_with (fail)
    go_ret
    exact ⟨rfl, rfl⟩
  by_cases h1 : c = []
  · subst h1
    obtain rfl : r = false := by rw [hr]; exact decide_eq_false (fun h => by have := h.2.1; simp at this)
    clear hr
    go_enter Try.func43, Try.ntmps43
    go_wp2_with (fail)
    go_ret
    exact ⟨rfl, rfl⟩
  obtain ⟨bc, offc, rfl, _, hcellc⟩ := hcc h1
  have hpos := List.length_pos_iff.2 h1
  have hck := hcellc 0 hpos
  rw [Nat.add_zero] at hck
  obtain ⟨z, hz⟩ : ∃ z, z = c.getD 0 0 := ⟨_, rfl⟩
  rw [← hz] at hck
  have tp : (0 : Int) < (c.length : Int) := by omega
  by_cases h2 : z = 1
  case neg =>
    obtain rfl : r = false := by rw [hr]; exact decide_eq_false (fun h => h2 (hz.trans h.2.2.1))
    have tz : (z == 1) = false := by simpa using h2
    clear hr hz hcc hcellc
    go_enter Try.func43, Try.ntmps43
    go_wp2_with (fail)
    go_ret
    exact ⟨rfl, rfl⟩
  subst h2
  by_cases h3 : (c.length : Int) - 1 ≤ l
  · obtain rfl : r = true := by rw [hr]; exact decide_eq_true ⟨h0, hpos, hz.symm, h3⟩
    clear hr hz hcc hcellc
    go_enter Try.func43, Try.ntmps43
    go_wp2_with (fail)
    go_ret
    exact ⟨ret_bool (by first | rfl | (simp; done) | (simp; omega)), rfl⟩
  · obtain rfl : r = false := by rw [hr]; exact decide_eq_false (fun h => h3 h.2.2.2)
    have h3' : l < (c.length : Int) - 1 := by omega
    clear hr hz hcc hcellc h3
    go_enter Try.func43, Try.ntmps43
    go_wp2_with (fail)
    go_ret
    exact ⟨ret_bool (by first | rfl | (simp; done) | (simp; omega)), rfl⟩
/-- What Holds says. -/
def HoldsP {G : GFd} (t : Tabs G) (c : List Int) (l : Int) (s : List Int) : Prop := 0 ≤ l ∧ Pl.Reg (t.pl c) l.toNat (t.po s) s.length
theorem holdsP_iff {G : GFd} (t : Tabs G) {c l1 : List Int} (l : Int) (s : List Int) (h1 : Cano G l1) (e : t.pl l1 = t.pl c) : HoldsP t c l s ↔ RegL l1 l ∧ ∀ j, l.toNat ≤ j → j < s.length → gpS G l1 s j l1.length = 0 := by
  have hq := t.qb
  have hl := t.can_ln' h1 e
  have h0 : (t.pl c).a 0 = 1 ↔ l1.getD 0 0 = 1 := by
    rw [← e, t.pl_at]
    constructor
    · intro h; exact t.e_eq (t.can_range' h1 0) ⟨by omega, by omega⟩ (by rw [h, t.e_one])
    · intro h; rw [h, t.e_one]
  have h2 : 0 < l1.length ∨ l1 = [] := by rcases l1 with _ | ⟨a, l⟩; exact .inr rfl; exact .inl (by simp)
  constructor
  · rintro ⟨g0, g1, g2, g3⟩
    refine ⟨⟨g0, ?_, h0.1 g1, by omega⟩, fun j j1 j2 => (gap_zero t l1 s j).2 (by rw [e]; exact g3 j j1 j2)⟩
    rcases h2 with h2 | h2
    · exact h2
    · have := h0.1 g1; rw [h2] at this; simp at this
  · rintro ⟨⟨g0, g1, g2, g3⟩, g4⟩
    exact ⟨g0, ⟨h0.2 g2, by omega, fun j j1 j2 => by rw [← e]; exact (gap_zero t l1 s j).1 (g4 j j1 j2)⟩⟩
set_option maxRecDepth 100000 in
set_option maxHeartbeats 2000000 in
theorem holds_r (b : Nat) (G : GFd) (t : Tabs G) (vc vs : Value) (c s : List Int) (l : Int) (r : Bool) (w : World) (hg : IsGF w b G) (hc : Sl w vc c) (hs : Sl w vs s) (hcl : c.length ≤ 1000) (hr : BIf r (HoldsP t c l s)) :
    Calls Try.prog 28 #[.pointer (some ⟨b, 0, none⟩), vc, .int .i64 l, vs] w fun e w' => e = .returned (.bool r) ∧ Kept w w' := by
  have hr : r = true ↔ HoldsP t c l s := hr
  go_enter Try.func28, Try.ntmps28
  go_wp2_with (fail)
  refine (canon_p b G t vc c _ hg hc (by omega)).mono ?_
  rintro e w1 ⟨v1, l1, rfl, o1, k1, c1, p1⟩
  have HR := hid (hr.trans (holdsP_iff t l s c1 p1))
  have s1 := o1.sl
  have hg1 := hg.kept k1
  have ss1 := hs.kept k1
  have n1 : l1.length ≤ 1000 := by have := t.can_ln' c1 p1; have := t.pl_ln_le c; omega
  clear hr p1 o1 hc hs hg
  by_cases hR : RegL l1 l
  case neg =>
    obtain rfl : r = false := by
      cases r with
      | false => rfl
      | true => exact absurd (HR.out.1 rfl).1 hR
    have HF : Hid (decide (RegL l1 l) = false) := hid (decide_eq_false hR)
    clear hR
    go_wp2_with (go_at_call 43; (with_reducible refine (isReg_any _ l1 l _ s1).mono ?_); rintro e w2 ⟨rfl, rfl⟩; rw [HF.out])
    go_ret
    exact ⟨rfl, k1⟩
  have HT : Hid (decide (RegL l1 l) = true) := hid (decide_eq_true hR)
  obtain ⟨n, rfl⟩ := Int.eq_ofNat_of_zero_le hR.1
  have HR' : Hid (r = true ↔ ∀ j, n ≤ j → j < s.length → gpS G l1 s j l1.length = 0) := hid (HR.out.trans ⟨fun h => h.2, fun h => ⟨hR, h⟩⟩)
  clear hR HR
  have ss2 := ss1
  obtain ⟨as', caps, rfl, hsc, ⟨hsm, _⟩, _⟩ := ss2
  unfold maxLen at hsm
  go_wp2_with (go_at_call 43; (with_reducible refine (isReg_any _ l1 n _ s1).mono ?_); rintro e w2 ⟨rfl, rfl⟩; rw [HT.out])
  obtain ⟨wL, hwL⟩ : ∃ x, x = w2 := ⟨_, rfl⟩
  subst hwL
  go_loopw [9] (fun vi wr => ∃ j : Nat, n ≤ j ∧ (j ≤ s.length ∨ j = n) ∧ vi = .int .i64 j ∧ Hid (∀ i, n ≤ i → i < j → gpS G l1 s i l1.length = 0) ∧ Kept wL wr) (fun vi _ => s.length - (intOf vi).toNat)
  case atStart => exact ⟨n, by omega, .inr rfl, rfl, hid (fun i h1 h2 => by omega), Kept.rfl' _⟩
  case round =>
    obtain ⟨j, hnj, hjs, rfl, hno, hkw⟩ := hrel
    have hgw := hg1.kept hkw
    have sw := s1.kept hkw
    have ssw := ss1.kept hkw
    by_cases hlt : j < s.length
    · obtain ⟨y, hy⟩ : ∃ y, y = gpS G l1 s j l1.length := ⟨_, rfl⟩
      have HY : Hid (gpS G l1 s j l1.length = y) := hid hy.symm
      have hji : (j : Int) < (s.length : Int) := by omega
      by_cases h0 : y = 0
      · subst h0
        have hno' : Hid (∀ i, n ≤ i → i < j + 1 → gpS G l1 s i l1.length = 0) := hid (fun i h1 h2 => by
          by_cases e : i = j
          · subst e; exact hy.symm
          · exact hno.out i h1 (by omega))
        clear hy
        go_wp2_with (go_at_call 44; (with_reducible refine (gap_any b G t _ _ l1 s j _ hgw sw ssw hlt).mono ?_); rintro e w3 ⟨rfl, n3, rfl⟩; rw [HY.out])
        go_roundw
        case rel => exact ⟨j + 1, by omega, .inl (by omega), by go_num, hno', hkw.drewN _⟩
        case measure => simp [intOf]; omega
      · obtain rfl : r = false := by
          cases r with
          | false => rfl
          | true => exact absurd (hy.trans (HR'.out.1 rfl j hnj hlt)) h0
        have ty : (y != 0) = true := by simpa using h0
        have ty2 : (y == 0) = false := by simpa using h0
        clear hy
        go_wp2_with (go_at_call 44; (with_reducible refine (gap_any b G t _ _ l1 s j _ hgw sw ssw hlt).mono ?_); rintro e w3 ⟨rfl, n3, rfl⟩; rw [HY.out])
        go_ret
        exact ⟨rfl, k1.tr (hkw.drewN _)⟩
    · obtain rfl : r = true := HR'.out.2 (fun i h1 h2 => hno.out i h1 (by omega))
      have hge : (s.length : Int) ≤ (j : Int) := by omega
      clear hlt
      go_wp2_with (fail)
      go_ret
      exact ⟨rfl, k1.tr hkw⟩
end Go.Proofs.Ytmakdclgpeochaa
