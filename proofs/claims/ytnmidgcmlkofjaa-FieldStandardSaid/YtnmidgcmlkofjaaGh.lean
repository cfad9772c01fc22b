/- The walk of Standard. No conditions. -/
import Derived.Test.YtnmidgcmlkofjaaGg
import Derived.Test.YtnmidgcmlkofjaaMp
namespace Go.Proofs.Ytnmidgcmlkofjaa
open Go.RowKit Cw

/-- What a search for the standard field hands back. -/
def StdOut (q : Int) (yes no : Value) (w : World) (e : Ending) (w' : World) : Prop :=
  ((∃ (p : Int) (m : Nat) (mod : List Int) (v : Value), StdIs q p m mod ∧ e = .returned (.tuple #[.agg #[.int .i64 p, .int .i64 m, v], yes]) ∧ Sl w' v mod) ∨
    ((∀ (p : Int) (m : Nat) (mod : List Int), ¬ StdIs q p m mod) ∧ e = .returned (.tuple #[.agg #[.int .i64 0, .int .i64 0, .slice none 0 0], no]))) ∧ Kept w w'
/-- The block of a struct that is a result, and may be written. -/
structure ResB (w : World) (b : Nat) : Prop where
  lt : b < w.heap.size
  c0 : ∃ x, w.cell? ⟨b, 0, none⟩ = some x
  c1 : ∃ x, w.cell? ⟨b, 1, none⟩ = some x
  c2 : ∃ x, w.cell? ⟨b, 2, none⟩ = some x
  f0 : w.frozen? ⟨b, 0, none⟩ = false
  f1 : w.frozen? ⟨b, 1, none⟩ = false
  f2 : w.frozen? ⟨b, 2, none⟩ = false
theorem ResB.kept {w w' : World} {b : Nat} (h : ResB w b) (k : Kept w w') : ResB w' b := by
  obtain ⟨x, hx⟩ := h.c0
  obtain ⟨y, hy⟩ := h.c1
  obtain ⟨z, hz⟩ := h.c2
  exact ⟨k.lt h.lt, ⟨x, (Kept.cell' k h.lt).trans hx⟩, ⟨y, (Kept.cell' k h.lt).trans hy⟩, ⟨z, (Kept.cell' k h.lt).trans hz⟩, (Kept.frozen' k h.lt).trans h.f0, (Kept.frozen' k h.lt).trans h.f1, (Kept.frozen' k h.lt).trans h.f2⟩
theorem resB_new (w : World) (x y z : Value) (T : TypeId) : ResB (w.alloc (.cells #[x, y, z] T)) w.heap.size :=
  ⟨by simp, ⟨x, by simp⟩, ⟨y, by simp⟩, ⟨z, by simp⟩, by simp, by simp, by simp⟩
theorem sl_set3 {W : World} {b : Nat} {v : Value} {l : List Int} {x y z : Value} {B : Nat} (h : Own W B v l) (hb : b < B) : Sl (((W.setCell ⟨b, 0, none⟩ x).setCell ⟨b, 1, none⟩ y).setCell ⟨b, 2, none⟩ z) v l := by
  have hso : ∀ (W : World) (i : Nat) (u : Value), Own W B v l → Own (W.setCell ⟨b, i, none⟩ u) B v l := fun W i u h => h.setOther ⟨b, i, none⟩ u (fun g n c e => by
    subst e
    have := h.lt.1
    show g ≠ b
    omega)
  exact (hso _ _ _ (hso _ _ _ (hso _ _ _ h))).sl
theorem kept_set3 {w W : World} {b : Nat} {x y z : Value} (h : Kept w W) (hb : w.heap.size ≤ b) : Kept w (((W.setCell ⟨b, 0, none⟩ x).setCell ⟨b, 1, none⟩ y).setCell ⟨b, 2, none⟩ z) := by
  have hks : ∀ (W : World) (i : Nat) (u : Value), Kept w W → Kept w (W.setCell ⟨b, i, none⟩ u) := fun W i u h => Below.setCell h (p := ⟨b, i, none⟩) hb u
  exact hks _ _ _ (hks _ _ _ (hks _ _ _ h))
theorem sl_none (w : World) : Sl w (.slice none 0 0) [] := ⟨none, 0, rfl, Nat.le_refl _, ⟨Nat.zero_le _, fun _ => rfl⟩, fun h => absurd rfl h⟩

theorem standard_out (q : Int) (w : World) (h : q < 2 ∨ 256 < q) :
    Calls Try.prog 56 #[.int .i64 q] w fun e w' => e = .returned (.tuple #[.agg #[.int .i64 0, .int .i64 0, .slice none 0 0], .int .i64 6]) ∧ Kept w w' := by
  have hk0 := kept_alloc w (.cells #[.int .i64 0, .int .i64 0, .slice none 0 0] 24)
  by_cases h2 : q < 2
  · clear h
    go_enter Try.func56, Try.ntmps56
    go_wp2_with (fail)
    exact bodyPost_ret (v := .tuple #[.agg #[.int .i64 0, .int .i64 0, .slice none 0 0], .int .i64 6]) (by simp [results, Try.results56, go_sem]) rfl ⟨rfl, hk0⟩
  · have h3 : 256 < q := by omega
    have h4 : 2 ≤ q := by omega
    clear h h2
    go_enter Try.func56, Try.ntmps56
    go_wp2_with (fail)
    exact bodyPost_ret (v := .tuple #[.agg #[.int .i64 0, .int .i64 0, .slice none 0 0], .int .i64 6]) (by simp [results, Try.results56, go_sem]) rfl ⟨rfl, hk0⟩

set_option maxHeartbeats 4000000 in
theorem standard_in (q : Nat) (w : World) (h2 : 2 ≤ q) (h256 : q ≤ 256) :
    Calls Try.prog 56 #[.int .i64 q] w (StdOut q (.int .i64 0) (.int .i64 6) w) := by
  obtain ⟨w1, hw1⟩ : ∃ w1, w1 = w.alloc (.cells #[.int .i64 0, .int .i64 0, .slice none 0 0] 24) := ⟨_, rfl⟩
  have hk1 : Kept w w1 := by rw [hw1]; exact kept_alloc _ _
  have hlt1 : w.heap.size < w1.heap.size := by rw [hw1]; simp
  have r0 : w1.cell? ⟨w.heap.size, 0, none⟩ = some (.int .i64 0) := by rw [hw1]; simp
  have r1 : w1.cell? ⟨w.heap.size, 1, none⟩ = some (.int .i64 0) := by rw [hw1]; simp
  have r2 : w1.cell? ⟨w.heap.size, 2, none⟩ = some (.slice none 0 0) := by rw [hw1]; simp
  have f0 : w1.frozen? ⟨w.heap.size, 0, none⟩ = false := by rw [hw1]; simp
  have f1 : w1.frozen? ⟨w.heap.size, 1, none⟩ = false := by rw [hw1]; simp
  have f2 : w1.frozen? ⟨w.heap.size, 2, none⟩ = false := by rw [hw1]; simp
  go_enter Try.func56, Try.ntmps56
  go_wp2_with (fail)
  rw [← hw1]
  clear hw1
  go_loop [4] (fun vd => ∃ d : Int, 2 ≤ d ∧ d ≤ q ∧ vd = .int .i64 d ∧ Hid (∀ c : Int, 2 ≤ c → c < d → (q : Int) % c ≠ 0)) (fun vd => q - (intOf vd).toNat)
  case atStart => exact ⟨2, by omega, by omega, rfl, hid (fun c h3 h4 => by omega)⟩
  case round =>
    obtain ⟨d, d2, dq, rfl, hc⟩ := hrel
    have h11 := Int.emod_nonneg (q : Int) (show d ≠ 0 by omega)
    have h12 := Int.emod_lt_of_pos (q : Int) (show 0 < d by omega)
    by_cases hz : (q : Int) % d = 0
    case neg =>
      have t0 : ((q : Int) % d != 0) = true := by simpa using hz
      have hdq : d < q := by
        rcases Int.lt_or_le d q with g | g
        · exact g
        · have : d = q := by omega
          rw [this] at hz; simp at hz
      have hc' : Hid (∀ c : Int, 2 ≤ c → c < d + 1 → (q : Int) % c ≠ 0) := hid (fun c g1 g2 => by
        by_cases e : c = d
        · rw [e]; exact hz
        · exact hc.out c g1 (by omega))
      clear hz
      go_wp2_with (fail)
      go_round
      case rel => exact ⟨d + 1, by omega, by omega, rfl, hc'⟩
      case measure => simp [intOf]; omega
    have t0 : ((q : Int) % d != 0) = false := by simpa using hz
    have HPR : Hid (Prm d) := hid (least_prm d2 hz hc.out)
    have HZ := hid hz
    clear hz hc
    go_wp2_with (fail)
    go_loopw [5] (fun vm wr => ∃ k : Nat, 1 ≤ k ∧ k ≤ 8 ∧ vm = .int .i64 k ∧ Hid (∀ j : Nat, 1 ≤ j → j < k → ordS d j < q) ∧ ∃ n, wr = w1.drewN n) (fun vm _ => 8 - (intOf vm).toNat)
    case atStart => exact ⟨1, by omega, by omega, rfl, hid (fun j h3 h4 => by omega), 0, rfl⟩
    case round =>
      obtain ⟨k, k1, k8, rfl, hlo, n, rfl⟩ := hrel
      obtain ⟨o, ho⟩ : ∃ o, o = ordS d k := ⟨_, rfl⟩
      have HO : Hid (ordS d k = o) := hid ho.symm
      clear ho
      by_cases hgo : o < q ∧ k < 8
      · obtain ⟨g1, g2⟩ := hgo
        have hlo' : Hid (∀ j : Nat, 1 ≤ j → j < k + 1 → ordS d j < q) := hid (fun j j1 j2 => by
          by_cases e : j = k
          · rw [e, HO.out]; exact g1
          · exact hlo.out j j1 (by omega))
        have g2' : (k : Int) < 8 := by omega
        go_wp2_with (go_at_call 66; (with_reducible refine (order_any d k _).mono ?_); rintro e w2 ⟨rfl, n2, rfl⟩; rw [HO.out])
        go_roundw
        case rel => exact ⟨k + 1, by omega, by omega, by go_num, hlo', by first | exact ⟨_, rfl⟩ | exact ⟨_, World.drewN_drewN _ _ _⟩⟩
        case measure => simp [intOf]; omega
      have HEX : Hid (k = 8 ∨ (q : Int) ≤ ordS d k) := hid (by rw [HO.out]; omega)
      by_cases hoq : o = q
      case neg =>
        have tq : (o != (q : Int)) = true := by simpa using hoq
        have HN : Hid (∀ (p : Int) (m : Nat) (mod : List Int), ¬ StdIs q p m mod) := hid (std_none HPR.out HZ.out (by omega) (by omega) hlo.out HEX.out (by rw [HO.out]; exact hoq))
        clear hoq
        have hkf := fun n x y z => kept_set3 (b := w.heap.size) (x := x) (y := y) (z := z) (hk1.drewN n) (Nat.le_refl _)
        have HKF := hid hkf
        clear hkf
        by_cases hlt : o < q
        · have k88 : (8 : Int) ≤ (k : Int) := by omega
          clear hgo
          go_wp2_with (go_at_call 66; (with_reducible refine (order_any d k _).mono ?_); rintro e w2 ⟨rfl, n2, rfl⟩; rw [HO.out])
          refine bodyPost_ret (v := .tuple #[.agg #[.int .i64 0, .int .i64 0, .slice none 0 0], .int .i64 6]) ?_ rfl ⟨.inr ⟨HN.out, rfl⟩, HKF.out _ _ _ _⟩
          simp [results, Try.results56, go_sem, r0, r1, r2]
        · have hle : (q : Int) ≤ o := by omega
          clear hgo hlt
          go_wp2_with (go_at_call 66; (with_reducible refine (order_any d k _).mono ?_); rintro e w2 ⟨rfl, n2, rfl⟩; rw [HO.out])
          refine bodyPost_ret (v := .tuple #[.agg #[.int .i64 0, .int .i64 0, .slice none 0 0], .int .i64 6]) ?_ rfl ⟨.inr ⟨HN.out, rfl⟩, HKF.out _ _ _ _⟩
          simp [results, Try.results56, go_sem, r0, r1, r2]
      subst hoq
      have HPM : Hid (d ^ k = (q : Int)) := hid (ordS_eq HO.out (by omega)).1
      have d256 : d ≤ 256 := by omega
      clear hgo HEX hlo
      have tq : (((q : Nat) : Int) != (q : Int)) = false := by simp
      by_cases hk : k = 1
      · subst hk
        have HS : Hid (StdIs q d 1 []) := hid ⟨HPR.out, by omega, by omega, HPM.out, fun _ => rfl, fun h => absurd rfl h⟩
        have hkf := fun n x y z => kept_set3 (b := w.heap.size) (x := x) (y := y) (z := z) (hk1.drewN n) (Nat.le_refl _)
        have HKF := hid hkf
        clear hkf
        go_wp2_with (go_at_call 66; (with_reducible refine (order_any d 1 _).mono ?_); rintro e w2 ⟨rfl, n2, rfl⟩; rw [show ordS d 1 = (q : Int) from HO.out])
        refine bodyPost_ret (v := .tuple #[.agg #[.int .i64 d, .int .i64 1, .slice none 0 0], .int .i64 0]) ?_ rfl ⟨.inl ⟨d, 1, [], _, HS.out, rfl, sl_none _⟩, HKF.out _ _ _ _⟩
        simp [results, Try.results56, go_sem, r0, r1, r2]
      have tk : ((k : Int) == 1) = false := by simp; omega
      have HK1 := hid hk
      clear hk
      go_wp2_with (go_at_call 66; (with_reducible refine (order_any d k _).mono ?_); rintro e w2 ⟨rfl, n2, rfl⟩; rw [HO.out])
      go_loopw [43] (fun vv wr => ∃ v : Nat, v ≤ q ∧ vv = .int .i64 v ∧ Hid (∀ u : Nat, u < v → ¬ IrrP d (digL d u k)) ∧ Kept w1 wr) (fun vv _ => q - (intOf vv).toNat)
      case atStart => exact ⟨0, by omega, rfl, hid (fun u hu => by omega), kept_drewN _ _⟩
      case round =>
        obtain ⟨v, hv, rfl, hno, hkw⟩ := hrel
        have hb : w.heap.size < wr.heap.size := Nat.lt_of_lt_of_le hlt1 hkw.size
        by_cases hvq : v < q
        · have hk2 : 1 < k := by have := HK1.out; omega
          have HFD := hid (field_dig HPR.out hk2 (by rw [HO.out]; omega) v)
          by_cases hir : IrrP d (digL d v k)
          · have HS : Hid (StdIs q d k (digL d v k)) := hid ⟨HPR.out, k1, k8, HPM.out, fun e => absurd e HK1.out, fun _ => ⟨v, by omega, rfl, hir, hno.out⟩⟩
            have HF : Hid (FieldP d k (digL d v k)) := hid (HFD.out.2 hir)
            clear hir
            go_wp2_with (first
              | (go_at_call 60; (with_reducible refine (digitsOf_any (v : Int) d k _ (by omega) (by omega) (by omega) d256 (by omega)).mono ?_); rintro e w3 ⟨rfl, o3, k3⟩; have hs3 := o3.sl.kept (kept_alloc _ (.cells #[.int .i64 d, .int .i64 k, .slice (some ⟨wr.heap.size, 0, none⟩) k k] 24)); have bx3 := boxF_new w3 d k (.slice (some ⟨wr.heap.size, 0, none⟩) k k) 24; have g0 := bx3.h0; have g1 := bx3.h1; have g2 := bx3.h2)
              | (go_at_call 49; (with_reducible refine (check_any d k _ (digL d v k) _ hs3 0 (.inl ⟨HF.out, rfl⟩)).mono ?_); rintro e w4 ⟨rfl, k4⟩; have kk := (hkw.tr k3).tr ((kept_alloc w3 (.cells #[.int .i64 d, .int .i64 k, .slice (some ⟨wr.heap.size, 0, none⟩) k k] 24)).tr k4); have bx4 := bx3.kept k4; have g3 := bx4.h0; have g4 := bx4.h1; have g5 := bx4.h2; have p0 := (Kept.cell' kk hlt1).trans r0; have p1 := (Kept.cell' kk hlt1).trans r1; have p2 := (Kept.cell' kk hlt1).trans r2; have e0 := (Kept.frozen' kk hlt1).trans f0; have e1 := (Kept.frozen' kk hlt1).trans f1; have e2 := (Kept.frozen' kk hlt1).trans f2; have o4 := (o3.kept (kept_alloc _ _)).kept k4))
            have hfs := sl_set3 (x := .int .i64 d) (y := .int .i64 k) (z := .slice (some ⟨wr.heap.size, 0, none⟩) k k) o4 hb
            have hfk := kept_set3 (x := .int .i64 d) (y := .int .i64 k) (z := .slice (some ⟨wr.heap.size, 0, none⟩) k k) (hk1.tr kk) (Nat.le_refl w.heap.size)
            refine bodyPost_ret (v := .tuple #[.agg #[.int .i64 d, .int .i64 k, .slice (some ⟨wr.heap.size, 0, none⟩) k k], .int .i64 0]) ?_ rfl ⟨.inl ⟨d, k, digL d v k, _, HS.out, rfl, hfs⟩, hfk⟩
            simp [results, Try.results56, go_sem, p0, p1, p2]
          · have HF : Hid (¬ FieldP d k (digL d v k)) := hid (fun h => hir (HFD.out.1 h))
            have hno' : Hid (∀ u : Nat, u < v + 1 → ¬ IrrP d (digL d u k)) := hid (fun u hu => by
              by_cases e : u = v
              · rw [e]; exact hir
              · exact hno.out u (by omega))
            clear hir
            go_wp2_with (first
              | (go_at_call 60; (with_reducible refine (digitsOf_any (v : Int) d k _ (by omega) (by omega) (by omega) d256 (by omega)).mono ?_); rintro e w3 ⟨rfl, o3, k3⟩; have hs3 := o3.sl.kept (kept_alloc _ (.cells #[.int .i64 d, .int .i64 k, .slice (some ⟨wr.heap.size, 0, none⟩) k k] 24)); have bx3 := boxF_new w3 d k (.slice (some ⟨wr.heap.size, 0, none⟩) k k) 24; have g0 := bx3.h0; have g1 := bx3.h1; have g2 := bx3.h2)
              | (go_at_call 49; (with_reducible refine (check_any d k _ (digL d v k) _ hs3 1 (.inr ⟨HF.out, rfl⟩)).mono ?_); rintro e w4 ⟨rfl, k4⟩; have kk := (hkw.tr k3).tr ((kept_alloc w3 (.cells #[.int .i64 d, .int .i64 k, .slice (some ⟨wr.heap.size, 0, none⟩) k k] 24)).tr k4); have bx4 := bx3.kept k4; have g3 := bx4.h0; have g4 := bx4.h1; have g5 := bx4.h2; have p0 := (Kept.cell' kk hlt1).trans r0; have p1 := (Kept.cell' kk hlt1).trans r1; have p2 := (Kept.cell' kk hlt1).trans r2; have e0 := (Kept.frozen' kk hlt1).trans f0; have e1 := (Kept.frozen' kk hlt1).trans f1; have e2 := (Kept.frozen' kk hlt1).trans f2; have o4 := (o3.kept (kept_alloc _ _)).kept k4))
            go_roundw
            case rel => exact ⟨v + 1, by omega, by go_num, hno', kk⟩
            case measure => simp [intOf]; omega
        · have HN : Hid (∀ (p : Int) (m : Nat) (mod : List Int), ¬ StdIs q p m mod) := hid (std_none_irr HPR.out HK1.out k1 HPM.out (fun u hu => hno.out u (by omega)))
          have p0 := (Kept.cell' hkw hlt1).trans r0
          have p1 := (Kept.cell' hkw hlt1).trans r1
          have p2 := (Kept.cell' hkw hlt1).trans r2
          have e0 := (Kept.frozen' hkw hlt1).trans f0
          have e1 := (Kept.frozen' hkw hlt1).trans f1
          have e2 := (Kept.frozen' hkw hlt1).trans f2
          have hfk := kept_set3 (x := .int .i64 0) (y := .int .i64 0) (z := .slice none 0 0) (hk1.tr hkw) (Nat.le_refl w.heap.size)
          go_wp2_with (fail)
          refine bodyPost_ret (v := .tuple #[.agg #[.int .i64 0, .int .i64 0, .slice none 0 0], .int .i64 6]) ?_ rfl ⟨.inr ⟨HN.out, rfl⟩, hfk⟩
          simp [results, Try.results56, go_sem, p0, p1, p2]
end Go.Proofs.Ytnmidgcmlkofjaa
