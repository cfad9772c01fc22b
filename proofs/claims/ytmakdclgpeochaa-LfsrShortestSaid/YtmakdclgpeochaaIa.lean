/- The walks of the reference's Register and Holds. Conditions: a field's description; lengths are bounded. -/
import Derived.Test.YtmakdclgpeochaaQb
import Derived.Test.YtmakdclgpeochaaRg
import Derived.Test.YtmakdclgpeochaaHa
namespace Go.Proofs.Ytmakdclgpeochaa
open Go.RowKit Cw

theorem rAt_0 (G : GFd) (t : Tabs G) (P M : Int) (mod : List Int) (vm : Value) (v : Value) (p : List Int) (w : World) (ho : Hid (Of G P M mod)) (hv : Sl w v p) :
    Calls Try.prog 22 #[.agg #[.int .i64 P, .int .i64 M, vm], v, .int .i64 0] w fun e w' => e = .returned (.int .i64 (inn G.q (p.getD 0 0))) ∧ Kept w w' := by
  have := rAt_p G t P M mod vm v p 0 w ho hv (by omega)
  simpa using this
/-- What Register asks. -/
def RegP {G : GFd} (t : Tabs G) (c : List Int) (l : Int) : Prop := 0 ≤ l ∧ (t.pl c).a 0 = 1 ∧ (t.pl c).ln ≤ l.toNat + 1
theorem regP_holds {G : GFd} (t : Tabs G) (c s : List Int) (l : Int) : HoldsP t c l s ↔ RegP t c l ∧ ∀ j, l.toNat ≤ j → j < s.length → ((t.pl c).a * t.po s) j = 0 :=
  ⟨fun ⟨h0, h1, h2, h3⟩ => ⟨⟨h0, h1, h2⟩, h3⟩, fun ⟨⟨h0, h1, h2⟩, h3⟩ => ⟨h0, h1, h2, h3⟩⟩
theorem at0_iff {G : GFd} (t : Tabs G) (c : List Int) : (t.pl c).a 0 = 1 ↔ inn G.q (c.getD 0 0) = 1 := by
  have hq := t.qb
  rw [t.pl_at, ← t.e_inn]
  constructor
  · intro h; exact t.e_eq (inn_bd (by omega) _) ⟨by omega, by omega⟩ (by rw [h, t.e_one])
  · intro h; rw [h, t.e_one]
set_option maxRecDepth 100000 in
set_option maxHeartbeats 2000000 in
theorem rReg_r (G : GFd) (t : Tabs G) (P M : Int) (mod : List Int) (vm : Value) (vc : Value) (c : List Int) (l : Int) (r : Bool) (w : World) (ho : Hid (Of G P M mod)) (hvm : Sl w vm mod) (hc : Sl w vc c) (hcl : c.length ≤ 1000) (hr : BIf r (RegP t c l)) :
    Calls Try.prog 30 #[.agg #[.int .i64 P, .int .i64 M, vm], vc, .int .i64 l] w fun e w' => e = .returned (.bool r) ∧ Kept w w' := by
  have hk0 := kept_alloc w (.cells #[.int .i64 P, .int .i64 M, vm] 24)
  have hbx := boxF_new w P M vm 24
  have smv := hvm.kept hk0
  have svc := hc.kept hk0
  have HZ1 : (w.alloc (.cells #[.int .i64 P, .int .i64 M, vm] 24)).heap.size = w.heap.size + 1 := by simp
  have HZ1 := hid HZ1
  obtain ⟨w1, hw1⟩ : ∃ w1, w1 = w.alloc (.cells #[.int .i64 P, .int .i64 M, vm] 24) := ⟨_, rfl⟩
  rw [← hw1] at hk0 hbx smv HZ1 svc
  have hbw := hbx
  have c0 := hbx.h0
  have c1 := hbx.h1
  have c2 := hbx.h2
  have hkc := Kept.rfl' w1
  have hr : r = true ↔ RegP t c l := hr
  obtain ⟨y, hy⟩ : ∃ y, y = inn G.q (c.getD 0 0) := ⟨_, rfl⟩
  have HY : Hid (inn G.q (c.getD 0 0) = y) := hid hy.symm
  have ha := at0_iff t c
  rw [← hy] at ha
  by_cases h0 : 0 ≤ l
  case neg =>
    obtain rfl : r = false := by
      cases r with
      | false => rfl
      | true => exact absurd (hr.1 rfl).1 h0
    have h0' : l < 0 := by omega
    clear hr h0 hy ha
    go_enter Try.func30, Try.ntmps30
    go_wp2_with (fail)
    rw [← hw1]
    go_ret
    exact ⟨rfl, hk0⟩
  by_cases h1 : y = 1
  case neg =>
    obtain rfl : r = false := by
      cases r with
      | false => rfl
      | true => exact absurd (ha.1 (hr.1 rfl).2.1) h1
    have ty : (y == 1) = false := by simpa using h1
    clear hr hy ha
    go_enter Try.func30, Try.ntmps30
    go_wp2_with (fail)
    rw [← hw1]
    clear hw1
    go_wp2_with (go_at_call 22; (with_reducible refine (rAt_0 G t P M mod vm _ c _ ho (svc.kept (by first | exact hkc | exact hkc.tr (kept_drew _) | exact hkc.tr (kept_drewN _ _)))).mono ?_); rintro e wx ⟨rfl, kx⟩; rw [HY.out]; have hkn := Kept.tr (b := _) (by first | exact hkc | exact hkc.tr (kept_drew _) | exact hkc.tr (kept_drewN _ _)) kx; clear hkc kx; have hkc := hkn; clear hkn; have bxx := hbw.kept hkc; have d0 := bxx.h0; have d1 := bxx.h1; have d2 := bxx.h2)
    go_ret
    exact ⟨rfl, hk0.tr hkc⟩
  subst h1
  by_cases h2 : ((t.pl c).ln : Int) - 1 ≤ l
  · obtain rfl : r = true := hr.2 ⟨h0, ha.2 rfl, by omega⟩
    clear hr hy ha
    go_enter Try.func30, Try.ntmps30
    go_wp2_with (fail)
    rw [← hw1]
    clear hw1
    go_wp2_with (first
      | (go_at_call 22; (with_reducible refine (rAt_0 G t P M mod vm _ c _ ho (svc.kept (by first | exact hkc | exact hkc.tr (kept_drew _) | exact hkc.tr (kept_drewN _ _)))).mono ?_); rintro e wx ⟨rfl, kx⟩; rw [HY.out]; have hkn := Kept.tr (b := _) (by first | exact hkc | exact hkc.tr (kept_drew _) | exact hkc.tr (kept_drewN _ _)) kx; clear hkc kx; have hkc := hkn; clear hkn; have bxx := hbw.kept hkc; have d0 := bxx.h0; have d1 := bxx.h1; have d2 := bxx.h2)
      | (go_at_call 47; (with_reducible refine (rDegree_p G t P M mod vm _ c _ ho (svc.kept (by first | exact hkc | exact hkc.tr (kept_drew _) | exact hkc.tr (kept_drewN _ _))) (by omega)).mono ?_); rintro e wx ⟨rfl, kx⟩; have hkn := Kept.tr (b := _) (by first | exact hkc | exact hkc.tr (kept_drew _) | exact hkc.tr (kept_drewN _ _)) kx; clear hkc kx; have hkc := hkn; clear hkn; have bxx := hbw.kept hkc; have d0 := bxx.h0; have d1 := bxx.h1; have d2 := bxx.h2))
    go_ret
    exact ⟨ret_bool (by first | rfl | (simp; done) | (simp; omega)), hk0.tr hkc⟩
  · obtain rfl : r = false := by
      cases r with
      | false => rfl
      | true => exact absurd (hr.1 rfl).2.2 (by omega)
    have h2' : l < ((t.pl c).ln : Int) - 1 := by omega
    clear hr hy ha h2
    go_enter Try.func30, Try.ntmps30
    go_wp2_with (fail)
    rw [← hw1]
    clear hw1
    go_wp2_with (first
      | (go_at_call 22; (with_reducible refine (rAt_0 G t P M mod vm _ c _ ho (svc.kept (by first | exact hkc | exact hkc.tr (kept_drew _) | exact hkc.tr (kept_drewN _ _)))).mono ?_); rintro e wx ⟨rfl, kx⟩; rw [HY.out]; have hkn := Kept.tr (b := _) (by first | exact hkc | exact hkc.tr (kept_drew _) | exact hkc.tr (kept_drewN _ _)) kx; clear hkc kx; have hkc := hkn; clear hkn; have bxx := hbw.kept hkc; have d0 := bxx.h0; have d1 := bxx.h1; have d2 := bxx.h2)
      | (go_at_call 47; (with_reducible refine (rDegree_p G t P M mod vm _ c _ ho (svc.kept (by first | exact hkc | exact hkc.tr (kept_drew _) | exact hkc.tr (kept_drewN _ _))) (by omega)).mono ?_); rintro e wx ⟨rfl, kx⟩; have hkn := Kept.tr (b := _) (by first | exact hkc | exact hkc.tr (kept_drew _) | exact hkc.tr (kept_drewN _ _)) kx; clear hkc kx; have hkc := hkn; clear hkn; have bxx := hbw.kept hkc; have d0 := bxx.h0; have d1 := bxx.h1; have d2 := bxx.h2))
    go_ret
    exact ⟨ret_bool (by first | rfl | (simp; done) | (simp; omega)), hk0.tr hkc⟩
/-- The first k terms of the reference's sum. -/
def rgS (G : GFd) (c s : List Int) (j : Nat) : Nat → Int
  | 0 => 0
  | k + 1 => addG G (rgS G c s j k) (mulG G (inn G.q (c.getD k 0)) (s.getD (j - k) 0))
theorem rgS_bd {G : GFd} (t : Tabs G) (c s : List Int) (j : Nat) : ∀ k, 0 ≤ rgS G c s j k ∧ rgS G c s j k < G.q
  | 0 => by have := t.qb; unfold rgS; omega
  | _ + 1 => t.add_bd _ _
theorem e_rgS {G : GFd} (t : Tabs G) (c s : List Int) (j : Nat) : ∀ k, t.e (rgS G c s j k) = Rg.sm k (fun i => t.e (c.getD i 0) * t.e (s.getD (j - i) 0))
  | 0 => t.e_zero
  | k + 1 => by rw [rgS, Rg.sm_succ, t.e_add, t.e_mul, t.e_inn, e_rgS t c s j k]
theorem rgS_zero {G : GFd} (t : Tabs G) (c s : List Int) {l j : Nat} (hl : (t.pl c).ln ≤ l + 1) (hj : l ≤ j) : rgS G c s j (l + 1) = 0 ↔ ((t.pl c).a * t.po s) j = 0 := by
  have e : t.e (rgS G c s j (l + 1)) = ((t.pl c).a * t.po s) j := by
    rw [e_rgS, PS.mul_at]
    exact (Rg.sm_short (by omega) (fun i h1 _ => by have h2 := Pl.ln_le.1 hl i h1; rw [show t.e (c.getD i 0) = 0 from h2, Rg.zero_mul])).symm
  rw [← e]
  constructor
  · intro h; rw [h, t.e_zero]
  · intro h; exact t.e_eq (rgS_bd t c s j _) ⟨by omega, by have := t.qb; omega⟩ (by rw [h, t.e_zero])
set_option maxRecDepth 100000 in
set_option maxHeartbeats 4000000 in
theorem rHolds_r (G : GFd) (t : Tabs G) (P M : Int) (mod : List Int) (vm : Value) (vc vs : Value) (c s : List Int) (l : Int) (r : Bool) (w : World) (ho : Hid (Of G P M mod)) (hvm : Sl w vm mod) (hc : Sl w vc c) (hs : Sl w vs s) (hcl : c.length ≤ 1000) (hsl : s.length ≤ 1000) (hr : BIf r (HoldsP t c l s)) :
    Calls Try.prog 18 #[.agg #[.int .i64 P, .int .i64 M, vm], vc, .int .i64 l, vs] w fun e w' => e = .returned (.bool r) ∧ Kept w w' := by
  have hk0 := kept_alloc w (.cells #[.int .i64 P, .int .i64 M, vm] 24)
  have hbx := boxF_new w P M vm 24
  have smv := hvm.kept hk0
  have svc := hc.kept hk0
  have svs := hs.kept hk0
  have HZ1 : (w.alloc (.cells #[.int .i64 P, .int .i64 M, vm] 24)).heap.size = w.heap.size + 1 := by simp
  have HZ1 := hid HZ1
  obtain ⟨w1, hw1⟩ : ∃ w1, w1 = w.alloc (.cells #[.int .i64 P, .int .i64 M, vm] 24) := ⟨_, rfl⟩
  rw [← hw1] at hk0 hbx smv HZ1 svc svs
  have hbw := hbx
  have c0 := hbx.h0
  have c1 := hbx.h1
  have c2 := hbx.h2
  have hkc := Kept.rfl' w1
  have hr : r = true ↔ HoldsP t c l s := hr
  rw [regP_holds] at hr
  by_cases hR : RegP t c l
  case neg =>
    have HN : Hid (BIf false (RegP t c l)) := hid ⟨(fun h => by cases h), fun h => absurd h hR⟩
    obtain rfl : r = false := by
      cases r with
      | false => rfl
      | true => exact absurd (hr.1 rfl).1 hR
    clear hr hR
    go_enter Try.func18, Try.ntmps18
    go_wp2_with (fail)
    rw [← hw1]
    clear hw1
    go_wp2_with (go_at_call 30; (with_reducible refine (rReg_r G t P M mod vm _ c l false _ ho (smv.kept (by first | exact hkc | exact hkc.tr (kept_drew _) | exact hkc.tr (kept_drewN _ _))) (svc.kept (by first | exact hkc | exact hkc.tr (kept_drew _) | exact hkc.tr (kept_drewN _ _))) hcl HN.out).mono ?_); rintro e wx ⟨rfl, kx⟩; have hkn := Kept.tr (b := _) (by first | exact hkc | exact hkc.tr (kept_drew _) | exact hkc.tr (kept_drewN _ _)) kx; clear hkc kx; have hkc := hkn; clear hkn; have bxx := hbw.kept hkc; have d0 := bxx.h0; have d1 := bxx.h1; have d2 := bxx.h2)
    go_ret
    exact ⟨rfl, hk0.tr hkc⟩
  have HT : Hid (BIf true (RegP t c l)) := hid ⟨fun _ => hR, fun _ => rfl⟩
  obtain ⟨n, rfl⟩ := Int.eq_ofNat_of_zero_le hR.1
  have hln : (t.pl c).ln ≤ n + 1 := hR.2.2
  have HR : Hid (r = true ↔ ∀ j, n ≤ j → j < s.length → rgS G c s j (n + 1) = 0) := hid (hr.trans ⟨fun h j h1 h2 => (rgS_zero t c s hln h1).2 (h.2 j h1 h2), fun h => ⟨hR, fun j h1 h2 => (rgS_zero t c s hln h1).1 (h j h1 h2)⟩⟩)
  clear hr hR hln
  have svs2 := svs
  obtain ⟨as', caps, rfl, hsc, ⟨hsm, _⟩, hcs⟩ := svs2
  unfold maxLen at hsm
  have n0 : (0 : Int) ≤ (n : Int) := by omega
  go_enter Try.func18, Try.ntmps18
  go_wp2_with (fail)
  rw [← hw1]
  clear hw1
  go_wp2_with (go_at_call 30; (with_reducible refine (rReg_r G t P M mod vm _ c n true _ ho (smv.kept (by first | exact hkc | exact hkc.tr (kept_drew _) | exact hkc.tr (kept_drewN _ _))) (svc.kept (by first | exact hkc | exact hkc.tr (kept_drew _) | exact hkc.tr (kept_drewN _ _))) hcl HT.out).mono ?_); rintro e wx ⟨rfl, kx⟩; have hkn := Kept.tr (b := _) (by first | exact hkc | exact hkc.tr (kept_drew _) | exact hkc.tr (kept_drewN _ _)) kx; clear hkc kx; have hkc := hkn; clear hkn; have bxx := hbw.kept hkc; have d0 := bxx.h0; have d1 := bxx.h1; have d2 := bxx.h2)
  obtain ⟨wL, hwL⟩ : ∃ x, x = wx := ⟨_, rfl⟩
  subst hwL
  have hkL := hkc
  clear hkc
  go_loopw [9] (fun vi wr => ∃ j : Nat, n ≤ j ∧ (j ≤ s.length ∨ j = n) ∧ vi = .int .i64 j ∧ Hid (∀ i, n ≤ i → i < j → rgS G c s i (n + 1) = 0) ∧ Kept w1 wr) (fun vi _ => s.length - (intOf vi).toNat)
  case atStart => exact ⟨n, by omega, .inr rfl, rfl, hid (fun i h1 h2 => by omega), hkL⟩
  case round =>
    obtain ⟨j, hnj, hjs, rfl, hno, hkw⟩ := hrel
    by_cases hlt : j < s.length
    case neg =>
      obtain rfl : r = true := HR.out.2 (fun i h1 h2 => hno.out i h1 (by omega))
      have hge : (s.length : Int) ≤ (j : Int) := by omega
      clear hlt
      go_wp2_with (fail)
      go_ret
      exact ⟨rfl, hk0.tr hkw⟩
    obtain ⟨bp, off, rfl, hbp, hcell⟩ := hcs (by intro e; rw [e] at hlt; simp at hlt)
    have hji : (j : Int) < (s.length : Int) := by omega
    have HCS := hid hcell
    obtain ⟨wM, hwM⟩ : ∃ x, x = wr := ⟨_, rfl⟩
    subst hwM
    clear hcell hcs
    go_wp2_with (fail)
    go_loopw [10, 11] (fun vy vk wr => ∃ k : Nat, k ≤ n + 1 ∧ vk = .int .i64 k ∧ vy = .int .i64 (rgS G c s j k) ∧ Kept w1 wr) (fun _ vk _ => n + 1 - (intOf vk).toNat)
    case atStart => exact ⟨0, by omega, rfl, rfl, hkw⟩
    case round =>
      obtain ⟨k, hk, rfl, rfl, hkr⟩ := hrel
      by_cases hkn : k ≤ n
      case neg =>
        obtain rfl : k = n + 1 := by omega
        obtain ⟨y, hy⟩ : ∃ y, y = rgS G c s j (n + 1) := ⟨_, rfl⟩
        have hkl : (n : Int) < ((n + 1 : Nat) : Int) := by omega
        rw [← hy]
        by_cases h0 : y = 0
        · subst h0
          have hno' : Hid (∀ i, n ≤ i → i < j + 1 → rgS G c s i (n + 1) = 0) := hid (fun i h1 h2 => by
            by_cases e : i = j
            · subst e; exact hy.symm
            · exact hno.out i h1 (by omega))
          clear hy hkn
          go_wp2_with (fail)
          go_roundw
          case rel => exact ⟨j + 1, by omega, .inl (by omega), by go_num, hno', hkr⟩
          case measure => simp [intOf]; omega
        · obtain rfl : r = false := by
            cases r with
            | false => rfl
            | true => exact absurd (hy.trans (HR.out.1 rfl j hnj hlt)) h0
          have ty : (y != 0) = true := by simpa using h0
          clear hy hkn
          go_wp2_with (fail)
          go_ret
          exact ⟨rfl, hk0.tr hkr⟩
      obtain ⟨i, hi⟩ : ∃ i, j = k + i := ⟨j - k, by omega⟩
      have hci := (Kept.cell' hkr hbp).trans (HCS.out i (by omega))
      obtain ⟨z, hz⟩ : ∃ z, z = s.getD i 0 := ⟨_, rfl⟩
      obtain ⟨x, hx⟩ : ∃ x, x = inn G.q (c.getD k 0) := ⟨_, rfl⟩
      obtain ⟨y, hy⟩ : ∃ y, y = rgS G c s j k := ⟨_, rfl⟩
      rw [← hz] at hci
      have HX : Hid (inn G.q (c.getD k 0) = x) := hid hx.symm
      have hst : Hid (rgS G c s j (k + 1) = addG G y (mulG G x z)) := hid (by rw [rgS, hy, hx, hz, show j - k = i by omega])
      rw [← hy]
      have hbw := hbx.kept hkr
      have e0 := hbw.h0
      have e1 := hbw.h1
      have e2 := hbw.h2
      have smw := smv.kept hkr
      have scw := svc.kept hkr
      have hkc := Kept.rfl' wr
      have hbp' := Kept.lt hkr hbp
      have hki : (k : Int) ≤ (n : Int) := by omega
      have hkj : (k : Int) ≤ (j : Int) := by omega
      have k0 : (0 : Int) ≤ (k : Int) := by omega
      have i0 : (0 : Int) ≤ (i : Int) := by omega
      have i1 : (i : Int) < (s.length : Int) := by omega
      have i2 : IntKind.i64.wrap ((j : Int) - (k : Int)) = (j : Int) - (k : Int) := IntWalk.i64_in _ (by omega)
      have i4 : (0 : Int) ≤ (j : Int) - (k : Int) := by omega
      have i5 : (j : Int) - (k : Int) < (s.length : Int) := by omega
      have i6 : ((j : Int) - (k : Int)).toNat = i := by omega
      clear hz hx hy hi hkn
      go_wp2_with (fail)
      go_region_held3 (fun w' => w'.cell? ⟨w.heap.size, 0, none⟩ = some (.int .i64 P) ∧ w'.cell? ⟨w.heap.size, 1, none⟩ = some (.int .i64 M) ∧ w'.cell? ⟨w.heap.size, 2, none⟩ = some vm ∧ w'.cell? ⟨bp, off + i, none⟩ = some (.int .i64 z)) (first | (simp [go_sem]; done) | (simp [*]; done))
        (first
          | (go_at_call 22; (with_reducible refine (rAt_p G t P M mod vm _ c k _ ho (scw.kept (by first | exact hkc | exact hkc.tr (kept_drew _) | exact hkc.tr (kept_drewN _ _))) (by omega)).mono ?_); rintro e wx ⟨rfl, kx⟩; rw [HX.out]; have hkn := Kept.tr (b := _) (by first | exact hkc | exact hkc.tr (kept_drew _) | exact hkc.tr (kept_drewN _ _)) kx; clear hkc kx; have hkc := hkn; clear hkn; have bxx := hbw.kept hkc; have d0 := bxx.h0; have d1 := bxx.h1; have d2 := bxx.h2; have d3 := (Kept.cell' hkc hbp').trans hci)
          | (go_at_call 24; (with_reducible refine (rMul_field G t P M mod vm x z _ ho.out (smw.kept (by first | exact hkc | exact hkc.tr (kept_drew _) | exact hkc.tr (kept_drewN _ _)))).mono ?_); rintro e wx ⟨rfl, kx⟩; have hkn := Kept.tr (b := _) (by first | exact hkc | exact hkc.tr (kept_drew _) | exact hkc.tr (kept_drewN _ _)) kx; clear hkc kx; have hkc := hkn; clear hkn; have bxx := hbw.kept hkc; have d0 := bxx.h0; have d1 := bxx.h1; have d2 := bxx.h2; have d3 := (Kept.cell' hkc hbp').trans hci)
          | (go_at_call 23; (with_reducible refine (rAdd_field G t P M mod vm y (mulG G x z) _ ho.out).mono ?_); rintro e wx ⟨rfl, kx⟩; have hkn := Kept.tr (b := _) (by first | exact hkc | exact hkc.tr (kept_drew _) | exact hkc.tr (kept_drewN _ _)) kx; clear hkc kx; have hkc := hkn; clear hkn; have bxx := hbw.kept hkc; have d0 := bxx.h0; have d1 := bxx.h1; have d2 := bxx.h2; have d3 := (Kept.cell' hkc hbp').trans hci))
      all_goals
        go_wp2_with (fail)
        go_roundw
        case rel => exact ⟨k + 1, by omega, by go_num, val_int hst.out.symm, hkr.tr hkc⟩
        case measure => simp [intOf]; omega
end Go.Proofs.Ytmakdclgpeochaa
