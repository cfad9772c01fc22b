/- The walk of the reference's Standard. No conditions. -/
import Derived.Test.YtnmidgcmlkofjaaGh
import Derived.Test.YtnmidgcmlkofjaaRd
namespace Go.Proofs.Ytnmidgcmlkofjaa
open Go.RowKit Cw

theorem rStandard_out (q : Int) (w : World) (h : q < 2 ∨ 256 < q) :
    Calls Try.prog 57 #[.int .i64 q] w fun e w' => e = .returned (.tuple #[.agg #[.int .i64 0, .int .i64 0, .slice none 0 0], .bool false]) ∧ Kept w w' := by
  have hk0 := kept_alloc w (.cells #[.int .i64 0, .int .i64 0, .slice none 0 0] 24)
  by_cases h2 : q < 2
  · clear h
    go_enter Try.func57, Try.ntmps57
    go_wp2_with (fail)
    exact bodyPost_ret (v := .tuple #[.agg #[.int .i64 0, .int .i64 0, .slice none 0 0], .bool false]) (by simp [results, Try.results57, go_sem]) rfl ⟨rfl, hk0⟩
  · have h3 : 256 < q := by omega
    have h4 : 2 ≤ q := by omega
    clear h h2
    go_enter Try.func57, Try.ntmps57
    go_wp2_with (fail)
    exact bodyPost_ret (v := .tuple #[.agg #[.int .i64 0, .int .i64 0, .slice none 0 0], .bool false]) (by simp [results, Try.results57, go_sem]) rfl ⟨rfl, hk0⟩

set_option maxHeartbeats 4000000 in
theorem rStandard_in (q : Nat) (w : World) (h2 : 2 ≤ q) (h256 : q ≤ 256) :
    Calls Try.prog 57 #[.int .i64 q] w (StdOut q (.bool true) (.bool false) w) := by
  obtain ⟨w1, hw1⟩ : ∃ w1, w1 = w.alloc (.cells #[.int .i64 0, .int .i64 0, .slice none 0 0] 24) := ⟨_, rfl⟩
  have hk1 : Kept w w1 := by rw [hw1]; exact kept_alloc _ _
  have hlt1 : w.heap.size < w1.heap.size := by rw [hw1]; simp
  have r0 : w1.cell? ⟨w.heap.size, 0, none⟩ = some (.int .i64 0) := by rw [hw1]; simp
  have r1 : w1.cell? ⟨w.heap.size, 1, none⟩ = some (.int .i64 0) := by rw [hw1]; simp
  have r2 : w1.cell? ⟨w.heap.size, 2, none⟩ = some (.slice none 0 0) := by rw [hw1]; simp
  have f0 : w1.frozen? ⟨w.heap.size, 0, none⟩ = false := by rw [hw1]; simp
  have f1 : w1.frozen? ⟨w.heap.size, 1, none⟩ = false := by rw [hw1]; simp
  have f2 : w1.frozen? ⟨w.heap.size, 2, none⟩ = false := by rw [hw1]; simp
  go_enter Try.func57, Try.ntmps57
  go_wp2_with (fail)
  rw [← hw1]
  clear hw1
  go_loopw [4] (fun vm wr => ∃ m : Nat, 1 ≤ m ∧ m ≤ 9 ∧ vm = .int .i64 m ∧ Hid (∀ (p : Int) (m' : Nat) (mod : List Int), m' < m → ¬ StdIs q p m' mod) ∧ Kept w1 wr) (fun vm _ => 9 - (intOf vm).toNat)
  case atStart => exact ⟨1, by omega, by omega, rfl, hid (fun p m' mod h h' => by have := h'.2.1; omega), Kept.rfl' _⟩
  case round =>
    obtain ⟨m, m1, m9, rfl, hno, hkw⟩ := hrel
    by_cases hm : m ≤ 8
    case neg =>
      have HN : Hid (∀ (p : Int) (m : Nat) (mod : List Int), ¬ StdIs q p m mod) := hid (fun p m' mod h => hno.out p m' mod (by have := h.2.2.1; omega) h)
      have jm : ¬ (m : Int) ≤ 8 := by omega
      have hfk := kept_set3 (x := .int .i64 0) (y := .int .i64 0) (z := .slice none 0 0) (hk1.tr hkw) (Nat.le_refl w.heap.size)
      have p0 := (Kept.cell' hkw hlt1).trans r0
      have p1 := (Kept.cell' hkw hlt1).trans r1
      have p2 := (Kept.cell' hkw hlt1).trans r2
      have e0 := (Kept.frozen' hkw hlt1).trans f0
      have e1 := (Kept.frozen' hkw hlt1).trans f1
      have e2 := (Kept.frozen' hkw hlt1).trans f2
      clear hm
      go_wp2_with (fail)
      refine bodyPost_ret (v := .tuple #[.agg #[.int .i64 0, .int .i64 0, .slice none 0 0], .bool false]) ?_ rfl ⟨.inr ⟨HN.out, rfl⟩, hfk⟩
      simp [results, Try.results57, go_sem, p0, p1, p2]
    have tm8 : decide ((m : Int) ≤ 8) = true := by simp; omega
    go_wp2_with (fail)
    go_loopw [5] (fun vp wr => ∃ p : Int, 2 ≤ p ∧ p ≤ q + 1 ∧ vp = .int .i64 p ∧ Hid (∀ (p' : Int) (mod : List Int), p' < p → ¬ StdIs q p' m mod) ∧ Kept w1 wr) (fun vp _ => (q + 1 - intOf vp).toNat)
    case atStart => exact ⟨2, by omega, by omega, rfl, hid (fun p' mod h h' => by have := h'.1.1; omega), hkw⟩
    case round =>
      obtain ⟨p, p2', pq, rfl, hnp, hkw⟩ := hrel
      by_cases hp : p ≤ q
      case neg =>
        have hno' : Hid (∀ (p : Int) (m' : Nat) (mod : List Int), m' < m + 1 → ¬ StdIs q p m' mod) := hid (fun p' m' mod h h' => by
          by_cases e : m' = m
          · subst e
            have hle : p' ≤ q := by
              have h5 := pow_le (p := p') (by have := h'.1.1; omega) h'.2.1
              rw [Int.pow_one, h'.2.2.2.1] at h5
              exact h5
            exact hnp.out p' mod (by omega) h'
          · exact hno.out p' m' mod (by omega) h')
        go_wp2_with (fail)
        go_roundw
        case rel => exact ⟨m + 1, by omega, by omega, by go_num, hno', hkw⟩
        case measure => simp [intOf]; omega
      by_cases hpr : Prm p
      case neg =>
        have HPN := hid hpr
        have hnp' : Hid (∀ (p' : Int) (mod : List Int), p' < p + 1 → ¬ StdIs q p' m mod) := hid (fun p' mod h h' => by
          by_cases e : p' = p
          · subst e; exact HPN.out h'.1
          · exact hnp.out p' mod (by omega) h')
        clear hpr
        go_wp2_with (go_at_call 63; (with_reducible refine (prime_any p _ p2' (by omega) false ⟨fun h => (by cases h), fun h => absurd h HPN.out⟩).mono ?_); rintro e w2 ⟨rfl, n2, rfl⟩)
        go_roundw
        case rel => exact ⟨p + 1, by omega, by omega, rfl, hnp', hkw.drewN _⟩
        case measure => simp [intOf]; omega
      have HPR := hid hpr
      clear hpr
      obtain ⟨o, ho⟩ : ∃ o, o = ordS p m := ⟨_, rfl⟩
      have HO : Hid (ordS p m = o) := hid ho.symm
      clear ho
      by_cases hoq : o = q
      case neg =>
        have tq : (o != (q : Int)) = true := by simpa using hoq
        have hnp' : Hid (∀ (p' : Int) (mod : List Int), p' < p + 1 → ¬ StdIs q p' m mod) := hid (fun p' mod h h' => by
          by_cases e : p' = p
          · subst e
            have := ordS_std h' (by omega)
            rw [HO.out] at this
            exact hoq this
          · exact hnp.out p' mod (by omega) h')
        clear hoq
        go_wp2_with (first
          | (go_at_call 63; (with_reducible refine (prime_any p _ p2' (by omega) true ⟨fun _ => HPR.out, fun _ => rfl⟩).mono ?_); rintro e w2 ⟨rfl, n2, rfl⟩)
          | (go_at_call 25; (with_reducible refine (rOrder_any p m _ _).mono ?_); rintro e w3 ⟨rfl, k3⟩; rw [HO.out]))
        go_roundw
        case rel => exact ⟨p + 1, by omega, by omega, rfl, hnp', Kept.tr (hkw.drewN _) k3⟩
        case measure => simp [intOf]; omega
      subst hoq
      have HPM : Hid (p ^ m = (q : Int)) := hid (ordS_eq HO.out (by omega)).1
      have tq : (((q : Nat) : Int) != (q : Int)) = false := by simp
      have p256 : p ≤ 256 := by omega
      by_cases hk : m = 1
      · subst hk
        have HS : Hid (StdIs q p 1 []) := hid ⟨HPR.out, by omega, by omega, HPM.out, fun _ => rfl, fun h => absurd rfl h⟩
        go_wp2_with (first
          | (go_at_call 63; (with_reducible refine (prime_any p _ p2' (by omega) true ⟨fun _ => HPR.out, fun _ => rfl⟩).mono ?_); rintro e w2 ⟨rfl, n2, rfl⟩)
          | (go_at_call 25; (with_reducible refine (rOrder_any p 1 _ _).mono ?_); rintro e w3 ⟨rfl, k3⟩; rw [show ordS p 1 = (q : Int) from HO.out]; have kk := Kept.tr (hkw.drewN n2) k3; have p0 := (Kept.cell' kk hlt1).trans r0; have p1 := (Kept.cell' kk hlt1).trans r1; have p2 := (Kept.cell' kk hlt1).trans r2; have e0 := (Kept.frozen' kk hlt1).trans f0; have e1 := (Kept.frozen' kk hlt1).trans f1; have e2 := (Kept.frozen' kk hlt1).trans f2))
        have hfk := kept_set3 (x := .int .i64 p) (y := .int .i64 1) (z := .slice none 0 0) (hk1.tr kk) (Nat.le_refl w.heap.size)
        refine bodyPost_ret (v := .tuple #[.agg #[.int .i64 p, .int .i64 1, .slice none 0 0], .bool true]) ?_ rfl ⟨.inl ⟨p, 1, [], _, HS.out, rfl, sl_none _⟩, hfk⟩
        simp [results, Try.results57, go_sem, p0, p1, p2]
      have tk : ((m : Int) == 1) = false := by simp; omega
      have HK1 := hid hk
      clear hk
      go_wp2_with (first
        | (go_at_call 63; (with_reducible refine (prime_any p _ p2' (by omega) true ⟨fun _ => HPR.out, fun _ => rfl⟩).mono ?_); rintro e w2 ⟨rfl, n2, rfl⟩)
        | (go_at_call 25; (with_reducible refine (rOrder_any p m _ _).mono ?_); rintro e w3 ⟨rfl, k3⟩; rw [HO.out]))
      have hkw3 := Kept.tr (hkw.drewN n2) k3
      go_loopw [6] (fun vv wr => ∃ v : Nat, v ≤ q ∧ vv = .int .i64 v ∧ Hid (∀ u : Nat, u < v → ¬ IrrP p (digL p u m)) ∧ Kept w1 wr) (fun vv _ => q - (intOf vv).toNat)
      case atStart => exact ⟨0, by omega, rfl, hid (fun u hu => by omega), hkw3⟩
      case round =>
        obtain ⟨v, hv, rfl, hnv, hkw⟩ := hrel
        have hb : w.heap.size < wr.heap.size := Nat.lt_of_lt_of_le hlt1 hkw.size
        by_cases hvq : v < q
        · have HDL : Hid ((digL p v m).length = m) := hid (length_digL _ _ _)
          have HDD : Hid (Digs p (digL p v m)) := hid (digs_digL (by omega) m)
          by_cases hir : IrrP p (digL p v m)
          · have HS : Hid (StdIs q p m (digL p v m)) := hid ⟨HPR.out, m1, by omega, HPM.out, fun e => absurd e HK1.out, fun _ => ⟨v, by omega, rfl, hir, hnv.out⟩⟩
            have HI := hid hir
            clear hir
            go_wp2_with (first
              | (go_at_call 62; (with_reducible refine (rdigits_any (v : Int) p m _ (by omega) (by omega) (by omega) p256 (by omega)).mono ?_); rintro e w4 ⟨rfl, o4, k4⟩)
              | (go_at_call 64; (with_reducible refine (irreducible_any _ (digL p v m) p _ o4.sl p2' p256 (by rw [HDL.out]; omega) HDD.out (by rw [HDL.out, HPM.out]; omega) true ⟨fun _ => HI.out, fun _ => rfl⟩).mono ?_); rintro e w5 ⟨rfl, k5⟩; have kk := (hkw.tr k4).tr k5; have p0 := (Kept.cell' kk hlt1).trans r0; have p1 := (Kept.cell' kk hlt1).trans r1; have p2 := (Kept.cell' kk hlt1).trans r2; have e0 := (Kept.frozen' kk hlt1).trans f0; have e1 := (Kept.frozen' kk hlt1).trans f1; have e2 := (Kept.frozen' kk hlt1).trans f2; have o5 := o4.kept k5))
            have hfs := sl_set3 (x := .int .i64 p) (y := .int .i64 m) (z := .slice (some ⟨wr.heap.size, 0, none⟩) m m) o5 hb
            have hfk := kept_set3 (x := .int .i64 p) (y := .int .i64 m) (z := .slice (some ⟨wr.heap.size, 0, none⟩) m m) (hk1.tr kk) (Nat.le_refl w.heap.size)
            refine bodyPost_ret (v := .tuple #[.agg #[.int .i64 p, .int .i64 m, .slice (some ⟨wr.heap.size, 0, none⟩) m m], .bool true]) ?_ rfl ⟨.inl ⟨p, m, digL p v m, _, HS.out, rfl, hfs⟩, hfk⟩
            simp [results, Try.results57, go_sem, p0, p1, p2]
          · have HI := hid hir
            have hnv' : Hid (∀ u : Nat, u < v + 1 → ¬ IrrP p (digL p u m)) := hid (fun u hu => by
              by_cases e : u = v
              · rw [e]; exact HI.out
              · exact hnv.out u (by omega))
            clear hir
            go_wp2_with (first
              | (go_at_call 62; (with_reducible refine (rdigits_any (v : Int) p m _ (by omega) (by omega) (by omega) p256 (by omega)).mono ?_); rintro e w4 ⟨rfl, o4, k4⟩)
              | (go_at_call 64; (with_reducible refine (irreducible_any _ (digL p v m) p _ o4.sl p2' p256 (by rw [HDL.out]; omega) HDD.out (by rw [HDL.out, HPM.out]; omega) false ⟨fun h => (by cases h), fun h => absurd h HI.out⟩).mono ?_); rintro e w5 ⟨rfl, k5⟩))
            go_roundw
            case rel => exact ⟨v + 1, by omega, by go_num, hnv', (hkw.tr k4).tr k5⟩
            case measure => simp [intOf]; omega
        · have hnp' : Hid (∀ (p' : Int) (mod : List Int), p' < p + 1 → ¬ StdIs q p' m mod) := hid (fun p' mod _ => std_none_irr HPR.out HK1.out m1 HPM.out (fun u hu => hnv.out u (by omega)) p' m mod)
          go_wp2_with (fail)
          go_roundw
          case rel => exact ⟨p + 1, by omega, by omega, rfl, hnp', hkw⟩
          case measure => simp [intOf]; omega
end Go.Proofs.Ytnmidgcmlkofjaa
