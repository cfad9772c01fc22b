/- The walk of the powers of a residue. Conditions: those of the product. -/
import Derived.Test.YtmakdclgpeochaaFb
import Derived.Test.YtmakdclgpeochaaBaA
import Derived.Test.YtmakdclgpeochaaSpA
namespace Go.Proofs.Ytmakdclgpeochaa
open Go.RowKit Cw

def lenOf : Value → Nat
  | .slice _ n _ => n
  | _ => 0
theorem Own.lenOf {w : World} {B : Nat} {v : Value} {xs : List Int} (h : Own w B v xs) : lenOf v = xs.length := by
  rcases h.form with ⟨rfl, rfl⟩ | ⟨g, cap, rfl, _⟩ <;> rfl

set_option maxHeartbeats 1000000 in
theorem powers_any (p : Int) (m : Nat) (vm : Value) (mod : List Int) (q x : Int) (w : World) (hvm : Sl w vm mod) (hp : 2 ≤ p) (hp2 : p ≤ 256) (hm : 1 ≤ m) (hm2 : m ≤ 8) (hq : p ^ m = q) (hq2 : q ≤ 256)
    (hml : 1 < m → mod.length = m) (hmd : Digs p mod) (hx0 : 1 ≤ x) (hx1 : x < q) :
    Calls Try.prog 67 #[.agg #[.int .i64 p, .int .i64 m, vm], .int .i64 q, .int .i64 x] w fun e w' => ∃ v, e = .returned v ∧ Own w' w.heap.size v (powL p m mod x) ∧ Kept w w' := by
  obtain ⟨qn, rfl⟩ := Int.eq_ofNat_of_zero_le (show 0 ≤ q by omega)
  have HQ := hid hq
  clear hq
  go_enter Try.func67, Try.ntmps67
  go_wp2_with (at_make; refine wpList_make_bools rfl _ _ rfl qn _ _ rfl rfl rfl rfl (by omega) ?_; intro w1 ho' hk'; have ho : OwnB w1 (w.heap.size + 1) (.slice (some ⟨w.heap.size + 1 + 1, 0, none⟩) qn qn) (List.replicate qn false) := (by simpa using ho'.mono (B' := w.heap.size + 1) (by simp)); have fz := ho.frozen 1; have c1 := ho.cell (i := 1) (by simp; omega))
  have hk : Kept ((w.alloc (.cells #[.int .i64 p, .int .i64 m, vm] 24)).alloc (.cells #[.int .i64 1] 3)) w1 := hk'
  have hb0 : Below (w.heap.size + 1) (w.alloc (.cells #[.int .i64 p, .int .i64 m, vm] 24)) w1 := ((Below.refl _ _).alloc (by simp) _).trans (hk.mono (by simp))
  have hb1 := Below.setCell hb0 (p := ⟨w.heap.size + 1 + 1, 1, none⟩) (by simp) (.bool true)
  have hbx := boxF_new w p m vm 24
  have hvm1 : Sl (w.alloc (.cells #[.int .i64 p, .int .i64 m, vm] 24)) vm mod := hvm.kept (kept_alloc _ _)
  have hout1 : Own w1 (w.heap.size + 1) (.slice (some ⟨w.heap.size + 1, 0, none⟩) 1 1) [1] := by
    have h0 := World.ownsRow_lit (size := 1) (e := 3) (base := w.heap.size + 1) (w.alloc (.cells #[.int .i64 p, .int .i64 m, vm] 24)) #[.int .i64 1] 1 (by simp) (by unfold maxLen; omega) rfl
    have h1 : Own ((w.alloc (.cells #[.int .i64 p, .int .i64 m, vm] 24)).alloc (.cells #[.int .i64 1] 3)) (w.heap.size + 1) (.slice (some ⟨w.heap.size + 1, 0, none⟩) 1 1) [1] := by unfold Own; simpa using h0
    exact h1.kept hk
  have hout := hout1.setB ho 1 (.bool true)
  have hseen := ho.set 1 true
  clear ho' ho hk' hk hb0 hout1 fz c1
  have hse := seen_start (q := qn) (by omega)
  have hfin : Hid (powsF (fun y => mulS p m mod y x) qn [1] x = powL p m mod x) := hid (by unfold powL; rw [HQ.out]; rfl)
  obtain ⟨bs0, hbs0⟩ : ∃ b, b = (List.replicate qn false).set 1 true := ⟨_, rfl⟩
  rw [← hbs0] at hseen hse
  clear hbs0
  obtain ⟨f, hf⟩ : ∃ f : Int → Int, f = (fun y => mulS p m mod y x) := ⟨_, rfl⟩
  rw [← hf] at hfin
  have Hf : Hid (∀ y, mulS p m mod y x = f y) := hid (fun y => by rw [hf])
  clear hf
  obtain ⟨gl, hgl⟩ : ∃ g, g = powL p m mod x := ⟨_, rfl⟩
  rw [← hgl] at hfin
  have HG := hid hgl
  clear hgl
  generalize w1.setCell { block := w.heap.size + 1 + 1, off := 1 } (Value.bool true) = w2 at *
  go_loopw [7, 9] (fun v vy wr => ∃ (acc : List Int) (y : Nat) (bs : List Bool) (n : Nat), vy = .int .i64 y ∧ y < qn ∧ Own wr (w.heap.size + 1) v acc ∧ OwnB wr (w.heap.size + 1) (.slice (some ⟨w.heap.size + 1 + 1, 0, none⟩) qn qn) bs ∧ Seen qn bs acc ∧
      Hid (powsF f n acc y = gl) ∧ qn ≤ n + acc.length ∧ Below (w.heap.size + 1) (w.alloc (.cells #[.int .i64 p, .int .i64 m, vm] 24)) wr) (fun v _ _ => qn - lenOf v)
  case atStart =>
    obtain ⟨xn, rfl⟩ := Int.eq_ofNat_of_zero_le (show 0 ≤ x by omega)
    exact ⟨[1], xn, bs0, qn, rfl, by omega, hout, hseen, hse, hfin, by omega, hb1⟩
  case round =>
    obtain ⟨acc, y, bs, n, rfl, hy, hown, hownb, hs, hpow, hqn, hbel⟩ := hrel
    clear hout hseen hse hfin hb1
    have cS := hownb.cell (i := y) (by rw [hs.1]; exact hy)
    have fS := hownb.frozen y
    have hbw := hbx.below hbel (by simp)
    have hvmw := hvm1.below hbel (by simp)
    obtain ⟨b0, b1, b2, b3⟩ := hbw
    have hkw : Kept w wr := (kept_alloc w _).tr (hbel.mono (by simp))
    by_cases hy0 : y = 0
    · subst hy0
      have e1 : Hid (acc = gl) := hid (by rw [← hpow.out]; exact (powsF_stop (.inl rfl)).symm)
      clear cS fS hbel hbx
      go_wp2_with (fail)
      go_ret
      exact ⟨_, rfl, by rw [← HG.out, ← e1.out]; exact hown.mono (by omega), hkw⟩
    · have t0 : ((y : Int) != 0) = true := by simp; omega
      by_cases hyb : bs.getD y false = true
      · have e1 : Hid (acc = gl) := hid (by rw [← hpow.out]; exact (powsF_stop (.inr ((hs.2.1 y hy).1 hyb))).symm)
        rw [hyb] at cS
        clear fS hbel hbx hyb
        go_wp2_with (fail)
        go_ret
        exact ⟨_, rfl, by rw [← HG.out, ← e1.out]; exact hown.mono (by omega), hkw⟩
      · have hyb' : bs.getD y false = false := by simpa using hyb
        have hnm : Hid ((y : Int) ∉ acc) := hid (fun h => hyb ((hs.2.1 y hy).2 h))
        have hs' := seen_step hs hy hyb'
        have hsl := seen_le hs hy hyb'
        rw [hyb'] at cS
        clear hyb hyb'
        have hown1 := hown.setB hownb y (.bool true)
        have hownb1 := hownb.set y true
        have hbel1 := Below.setCell hbel (p := ⟨w.heap.size + 1 + 1, y, none⟩) (by simp) (.bool true)
        clear hown hownb hbel
        have hlen : acc.length + 1 ≤ 1000000 := by omega
        have hB : w.heap.size + 1 ≤ wr.heap.size := by have := hownb1.lt; simp at this; omega
        have hHf := Hf
        go_wp2_with (first
          | (at_builtin; (refine wpList_append_one rfl (.tmp 32) (.tmp 34) rfl (w.heap.size + 1) _ acc rfl (hown1.kept (kept_alloc _ _)) ⟨wr.heap.size, 0, none⟩ y rfl (cell_new (by simp)) hlen (by simp; omega) ?_); intro v' w3 hown3 hgr3; have hnb3 := (hownb1.kept (kept_alloc _ (.cells #[.int .i64 y] 3))).append (hown1.kept (kept_alloc _ _)) hgr3; have hbel3 := below_append (hbel1.alloc (by simp; omega) (.cells #[.int .i64 y] 3)) (by simp; omega) (hown1.kept (kept_alloc _ _)) (Nat.le_refl _) hgr3; have hbx3 := hbx.below hbel3 (by simp); have d0 := hbx3.h0; have d1 := hbx3.h1; have d2 := hbx3.h2)
          | (go_at_call 68; refine (multiply_any p m vm mod y x _ (hvm1.below (by assumption) (by simp)) hp hp2 hm hm2 (by rw [HQ.out]; exact hq2) hml hmd (by omega) (by omega) (by omega) (by omega)).mono ?_; rintro e w4 ⟨rfl, hk4⟩; rw [hHf.out]))
        have hfb := mulS_bd (p := p) (by omega) m mod y x
        rw [hHf.out, HQ.out] at hfb
        obtain ⟨yn, hyn⟩ := Int.eq_ofNat_of_zero_le hfb.1
        have hb4 := hbel3.trans (hk4.mono (by have := hbel3.size; have := hnb3.lt; omega))
        have hgo := hpow.out
        rw [powsF_go (by omega) hnm.out (by omega)] at hgo
        have ho4 := hown3.kept hk4
        have hn4 := hnb3.kept hk4
        have hl1 := hown1.lenOf
        have hl4 := ho4.lenOf
        go_roundw
        case rel => exact ⟨acc ++ [(y : Int)], yn, bs.set y true, n - 1, val_int hyn, by omega, ho4, hn4, hs', hid (by rw [← hyn]; exact hgo), by simp; omega, hb4⟩
        case measure =>
          simp only [List.length_append, List.length_singleton] at hl4
          show qn - lenOf _ < qn - lenOf _
          rw [hl4, hl1]
          omega
end Go.Proofs.Ytmakdclgpeochaa
