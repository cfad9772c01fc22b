/- The walks of the generator and of the shape of a description. Conditions: those of the product. -/
import Derived.Test.YtmakdclgpeochaaFc
namespace Go.Proofs.Ytmakdclgpeochaa
open Go.RowKit Cw

set_option maxHeartbeats 1000000 in
theorem generator_any (p : Int) (m : Nat) (vm : Value) (mod : List Int) (q : Nat) (w : World) (hvm : Sl w vm mod) (hp : 2 ≤ p) (hp2 : p ≤ 256) (hm : 1 ≤ m) (hm2 : m ≤ 8) (hq : p ^ m = (q : Int)) (hq2 : q ≤ 256)
    (hml : 1 < m → mod.length = m) (hmd : Digs p mod) :
    Calls Try.prog 54 #[.agg #[.int .i64 p, .int .i64 m, vm], .int .i64 q] w fun e w' => Kept w w' ∧
      ((∃ g v, 1 ≤ g ∧ g < (q : Int) ∧ IsGen p m mod q g ∧ e = .returned v ∧ Own w' w.heap.size v (powL p m mod g)) ∨
       ((∀ x, 1 ≤ x → x < (q : Int) → ¬ IsGen p m mod q x) ∧ e = .returned (.slice none 0 0))) := by
  have hq3 : 2 ≤ q := by
    have h2 : p ^ 1 ≤ p ^ m := pow_le (by omega) hm
    rw [Int.pow_one] at h2
    omega
  have HQ := hid hq
  clear hq
  have hbx := boxF_new w p m vm 24
  have hvm1 : Sl (w.alloc (.cells #[.int .i64 p, .int .i64 m, vm] 24)) vm mod := hvm.kept (kept_alloc _ _)
  have hk0 := kept_alloc w (.cells #[.int .i64 p, .int .i64 m, vm] 24)
  go_enter Try.func54, Try.ntmps54
  go_wp2_with (fail)
  obtain ⟨w0, hw0⟩ : ∃ w0, w0 = w.alloc (.cells #[.int .i64 p, .int .i64 m, vm] 24) := ⟨_, rfl⟩
  rw [← hw0] at hbx hvm1 hk0 ⊢
  clear hw0
  go_loopw [5] (fun vx wr => ∃ x : Int, 1 ≤ x ∧ x ≤ q ∧ vx = .int .i64 x ∧ Hid (∀ y, 1 ≤ y → y < x → ¬ IsGen p m mod q y) ∧ Kept w0 wr) (fun vx _ => ((q : Int) - intOf vx).toNat)
  case atStart => exact ⟨1, by omega, by omega, rfl, hid (fun y h1 h2 => by omega), Kept.rfl' _⟩
  case round =>
    obtain ⟨x, hx1, hx2, rfl, hno, hkr⟩ := hrel
    have hb := hbx.kept hkr
    have hv := hvm1.kept hkr
    obtain ⟨b0, b1, b2, b3⟩ := hb
    by_cases hlt : x < q
    · go_wp2_with (go_at_call 67; refine (powers_any p m vm mod q x _ hv hp hp2 hm hm2 HQ.out (by omega) hml hmd hx1 hlt).mono ?_; rintro e w1 ⟨v, rfl, ho, hk1⟩)
      rcases ho.form with ⟨_, hnil⟩ | ⟨g, cap, rfl, hg1, hg2, hg3, hg4⟩
      · exact absurd hnil (powL_ne _ _ _ _)
      obtain ⟨ls, hls⟩ : ∃ l, l = powL p m mod x := ⟨_, rfl⟩
      rw [← hls] at ho hg3 ⊢
      have hlb : ∀ z ∈ ls, 0 ≤ z ∧ z < (q : Int) := by rw [hls, ← HQ.out]; exact powL_bd hp hm mod (by omega) (by rw [HQ.out]; exact hlt)
      have hne : ls ≠ [] := by rw [hls]; exact powL_ne _ _ _ _
      have hgen : Hid (IsGen p m mod q x ↔ ls.length = q - 1 ∧ mulS p m mod (ls.getD (q - 2) 0) x = 1) := hid (by unfold IsGen; rw [hls])
      have HL := hid hls
      clear hls
      have hb1 := (hbx.kept hkr).kept hk1
      have hv1 := hv.kept hk1
      have e1 := hb1.h0
      have e2 := hb1.h1
      have e3 := hb1.h2
      have hkk := hkr.tr hk1
      clear b0 b1 b2 b3 hk1 hv
      have hlen : Hid (ls.length ≠ 0) := hid (fun h => hne (List.eq_nil_of_length_eq_zero h))
      clear hne
      by_cases hl : ls.length = q - 1
      · have t1 : ((ls.length : Int) == (q : Int) - 1) = true := by simp; omega
        have hq2n : 2 ≤ (q : Int) := by omega
        have hi0 : (0 : Int) ≤ (q : Int) - 2 := by omega
        have hi1 : (q : Int) - 2 < (ls.length : Int) := by omega
        have cP := ho.cell (i := q - 2) (by omega)
        have hzb : 0 ≤ ls.getD (q - 2) 0 ∧ ls.getD (q - 2) 0 < (q : Int) := hlb _ (by simp only [List.getD, List.getElem?_eq_getElem (show q - 2 < ls.length by omega), Option.getD_some]; exact List.getElem_mem _)
        obtain ⟨z, hz⟩ : ∃ z, z = ls.getD (q - 2) 0 := ⟨_, rfl⟩
        rw [← hz] at cP hzb hgen
        clear hz hlb
        have HLq := hid hl
        clear hl
        have hgz : Hid (IsGen p m mod q x ↔ mulS p m mod z x = 1) := hid (hgen.out.trans ⟨fun h => h.2, fun h => ⟨HLq.out, h⟩⟩)
        clear hgen
        by_cases h1 : mulS p m mod z x = 1
        · have hyes : IsGen p m mod q x := hgz.out.2 h1
          have H1 := hid h1
          have HY := hid hyes
          clear h1 hyes
          go_wp2_with (fail)
          have hw1 : IntKind.i64.wrap ((q : Int) - 1) = (q : Int) - 1 := IntWalk.i64_in _ (by omega)
          have hw2 : IntKind.i64.wrap ((q : Int) - 2) = (q : Int) - 2 := IntWalk.i64_in _ (by clear hw1; omega)
          have hnat : ((q : Int) - 2).toNat = q - 2 := by clear hw1 hw2; omega
          go_region_held3 (fun w' => w'.cell? ⟨w.heap.size, 0, none⟩ = some (.int .i64 p) ∧ w'.cell? ⟨w.heap.size, 1, none⟩ = some (.int .i64 m) ∧ w'.cell? ⟨w.heap.size, 2, none⟩ = some vm ∧ w'.cell? ⟨g, q - 2, none⟩ = some (.int .i64 z)) (first | (simp [go_sem, *]; done))
            (first | (go_at_call 68; (with_reducible refine (multiply_any p m vm mod z x _ (hv1.kept (kept_drew _)) hp hp2 hm hm2 (by clear hw1 hw2 hnat; rw [HQ.out]; omega) hml hmd (by clear hw1 hw2 hnat; omega) (by clear hw1 hw2 hnat; omega) (by clear hw1 hw2 hnat; omega) (by clear hw1 hw2 hnat; omega)).mono ?_); rintro e w2 ⟨rfl, hk2⟩; rw [H1.out]; have bx2 := hb1.drew.kept hk2; have a0 := bx2.h0; have a1 := bx2.h1; have a2 := bx2.h2; have a3 := (hk2.cell' (b := g) (o := q - 2) hg2).trans cP; have ho2 := ho.drew.kept hk2))
          clear hw1 hw2 hnat
          go_wp2_with (fail)
          go_ret
          exact ⟨hk0.tr (hkk.tr ((kept_drew _).tr hk2)), .inl ⟨x, _, hx1, hlt, HY.out, rfl, by rw [← HL.out]; exact ho2.mono (by have := hk0.size; have := hkr.size; omega)⟩⟩
        · have tz : (mulS p m mod z x == 1) = false := by simpa using h1
          obtain ⟨u, hu⟩ : ∃ u, u = mulS p m mod z x := ⟨_, rfl⟩
          rw [← hu] at tz
          have HU := hid hu.symm
          have hN : Hid (¬ IsGen p m mod q x) := hid (fun h => h1 (hgz.out.1 h))
          clear h1 hu
          go_wp2_with (fail)
          have hw1 : IntKind.i64.wrap ((q : Int) - 1) = (q : Int) - 1 := IntWalk.i64_in _ (by omega)
          have hw2 : IntKind.i64.wrap ((q : Int) - 2) = (q : Int) - 2 := IntWalk.i64_in _ (by clear hw1; omega)
          have hnat : ((q : Int) - 2).toNat = q - 2 := by clear hw1 hw2; omega
          go_region_held3 (fun w' => w'.cell? ⟨w.heap.size, 0, none⟩ = some (.int .i64 p) ∧ w'.cell? ⟨w.heap.size, 1, none⟩ = some (.int .i64 m) ∧ w'.cell? ⟨w.heap.size, 2, none⟩ = some vm ∧ w'.cell? ⟨g, q - 2, none⟩ = some (.int .i64 z)) (first | (simp [go_sem, *]; done))
            (first | (go_at_call 68; (with_reducible refine (multiply_any p m vm mod z x _ (hv1.kept (kept_drew _)) hp hp2 hm hm2 (by clear hw1 hw2 hnat; rw [HQ.out]; omega) hml hmd (by clear hw1 hw2 hnat; omega) (by clear hw1 hw2 hnat; omega) (by clear hw1 hw2 hnat; omega) (by clear hw1 hw2 hnat; omega)).mono ?_); rintro e w2 ⟨rfl, hk2⟩; rw [HU.out]; have bx2 := hb1.drew.kept hk2; have a0 := bx2.h0; have a1 := bx2.h1; have a2 := bx2.h2; have a3 := (hk2.cell' (b := g) (o := q - 2) hg2).trans cP))
          clear hw1 hw2 hnat
          go_wp2_with (fail)
          go_roundw
          case rel => exact ⟨x + 1, by omega, by omega, rfl, hid (fun y g1 g2 => by
            by_cases e : y = x
            · rw [e]; exact hN.out
            · exact hno.out y g1 (by omega)), hkk.tr ((kept_drew _).tr hk2)⟩
          case measure => simp [intOf]; omega
      · have t1 : ((ls.length : Int) == (q : Int) - 1) = false := by simp; omega
        have hN : Hid (¬ IsGen p m mod q x) := hid (fun h => hl (hgen.out.1 h).1)
        go_wp2_with (fail)
        have hw1 : IntKind.i64.wrap ((q : Int) - 1) = (q : Int) - 1 := IntWalk.i64_in _ (by omega)
        go_quiet (fail)
        clear hw1
        go_wp2_with (fail)
        go_roundw
        case rel => exact ⟨x + 1, by omega, by omega, rfl, hid (fun y g1 g2 => by
          by_cases e : y = x
          · rw [e]; exact hN.out
          · exact hno.out y g1 (by omega)), hkk.drewN _⟩
        case measure => simp [intOf]; omega
    · have e : x = q := by omega
      subst e
      go_wp2_with (fail)
      go_ret
      exact ⟨hk0.tr hkr, .inr ⟨hno.out, rfl⟩⟩
end Go.Proofs.Ytmakdclgpeochaa
