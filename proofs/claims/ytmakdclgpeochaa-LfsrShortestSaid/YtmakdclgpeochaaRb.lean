/- The walk of the reference's test of divisibility. Conditions: a base from 2 to 256, at most eight coefficients, all of them digits. -/
import Derived.Test.YtmakdclgpeochaaRa
namespace Go.Proofs.Ytmakdclgpeochaa
open Go.RowKit Cw

theorem div_bd {p c l z : Int} (hp : 2 ≤ p) (hp2 : p ≤ 256) (hc : 0 ≤ c ∧ c < p) (hl : 0 ≤ l ∧ l < p) (hz : 0 ≤ z ∧ z < p) : 0 ≤ (p - c) * l ∧ (p - c) * l ≤ 65536 ∧ 0 ≤ z + (p - c) * l := by
  have h1 : 0 ≤ (p - c) * l := Int.mul_nonneg (by omega) hl.1
  have h2 : (p - c) * l ≤ 256 * l := Int.mul_le_mul_of_nonneg_right (by omega) hl.1
  omega

set_option maxHeartbeats 2000000 in
theorem divides_any (vl vm : Value) (low mod : List Int) (p : Int) (w : World) (hvl : Sl w vl low) (hvm : Sl w vm mod) (hp : 2 ≤ p) (hp2 : p ≤ 256) (hl0 : 1 ≤ low.length) (hl1 : low.length ≤ mod.length) (hm8 : mod.length ≤ 8)
    (hld : Digs p low) (hmd : Digs p mod) (r : Bool) (hr : r = true ↔ DivP p low mod) :
    Calls Try.prog 65 #[vl, vm, .int .i64 p] w fun e w' => e = .returned (.bool r) ∧ Kept w w' := by
  have HR := hid hr
  clear hr
  obtain ⟨al, cl, rfl, hcl, _, hlc⟩ := hvl
  obtain ⟨am, cm, rfl, hcm, hcm2, hmc⟩ := hvm
  obtain ⟨bl, ol, rfl, hbl, hlcell⟩ := hlc (by intro e; rw [e] at hl0; simp at hl0)
  clear hlc
  have hO0 : Own (w.alloc (.cells #[] 3)) w.heap.size (.slice (some ⟨w.heap.size, 0, none⟩) 0 0) [] := own_empty (Nat.le_refl _)
  have hB0 : Below w.heap.size w (w.alloc (.cells #[] 3)) := (Below.refl _ _).alloc (Nat.le_refl _) _
  have hsrc : ∀ ad, am = some ad → ∀ j, j < mod.length → (w.alloc (.cells #[] 3)).cell? (ad.add j) = some (.int .i64 (mod.getD j 0)) := fun ad had j hj => by
    obtain ⟨b', off', e, hb', hc'⟩ := hmc (by intro e; rw [e] at hj; simp at hj)
    rw [had] at e
    cases e
    rw [Addr.add_lit]
    exact (Below.cell hB0 (p := ⟨b', off' + j, none⟩) hb').trans (hc' j hj)
  have hmcs : mod ≠ [] → am ≠ none := fun h => by
    obtain ⟨b', off', e, _⟩ := hmc h
    rw [e]; simp
  have Hs := hid hsrc
  have H0 := hid hcm2.2
  have H1 := hid hmcs
  clear hsrc hmcs hmc
  go_enter Try.func65, Try.ntmps65
  go_wp2_with (first
    | (at_builtin; (refine wpList_copy_ints rfl (.tmp 15) (.tmp 16) rfl w.heap.size _ rfl hO0 am mod.length cm mod rfl rfl H0.out H1.out Hs.out (by omega) ?_); intro gm cm1 w1 hg1 gm1 gm2 ho1; have hb1 := below_grown hB0 hg1 hB0.size hO0.lt.1; clear gm1)
    | (at_builtin; (refine wpList_append_one rfl (.tmp 18) (.tmp 19) rfl w.heap.size _ mod rfl (ho1.kept (kept_alloc _ _)) ⟨w1.heap.size, 0, none⟩ 1 rfl (cell_new rfl) (by omega) (by have := hb1.size; simp; omega) ?_); intro v2 w2 ho2 hg2; have hb2 := below_append (hb1.alloc hb1.size (.cells #[.int .i64 1] 3)) (by have := hb1.size; simp; omega) (ho1.kept (kept_alloc _ _)) (Nat.le_refl _) hg2; rcases ho2.form with ⟨_, e2⟩ | ⟨g, cap2, rfl, hg3, hg4, hg5, hg6⟩; (exact absurd e2 (by simp))))
  obtain ⟨r0, hr0⟩ : ∃ l, l = mod ++ [1] := ⟨_, rfl⟩
  have hRl : r0.length = mod.length + 1 := by rw [hr0]; simp
  have d0 : Digs p r0 := by
    rw [hr0]
    intro x hx
    rcases List.mem_append.1 hx with h | h
    · exact hmd x h
    · rw [List.mem_singleton.1 h]; omega
  have HRR : Hid (r = true ↔ ∀ x ∈ divF p low r0 (mod.length + 1 - low.length), x = 0) := hid (by rw [hr0]; exact HR.out)
  rw [← hr0] at ho2
  rw [hRl] at ho2
  clear hr0 HR ho1 hO0 hB0 hb1 hg2
  have HL1 := hid hl1
  go_loopw [9] (fun vi wr => ∃ n : Nat, n ≤ mod.length + 1 - low.length ∧ vi = .int .i64 ((mod.length : Int) - n) ∧ Own wr w.heap.size (.slice (some ⟨g, 0, none⟩) (mod.length + 1) cap2) (divF p low r0 n) ∧ Kept w wr) (fun vi _ => (intOf vi + 1 - low.length).toNat)
  case atStart => exact ⟨0, by omega, by simp, ho2, hb2⟩
  case round =>
    obtain ⟨n, hn, rfl, hown, hkw⟩ := hrel
    clear ho2 hb2
    obtain ⟨ys, hys⟩ : ∃ ys, ys = divF p low r0 n := ⟨_, rfl⟩
    rw [← hys] at hown
    have lY : Hid (ys.length = mod.length + 1) := hid (by rw [hys, length_divF, hRl])
    have dY : Digs p ys := by rw [hys]; exact digs_divF (by omega) d0 n
    have HY := hid hys
    clear hys
    have hgw : g < wr.heap.size := hown.lt.2
    obtain ⟨i, hi⟩ : ∃ i, mod.length = n + i := ⟨mod.length - n, by omega⟩
    have ei : (mod.length : Int) - (n : Int) = (i : Int) := by omega
    rw [ei]
    by_cases hlt : low.length ≤ i
    · obtain ⟨s, hs⟩ : ∃ s, i = low.length + s := ⟨i - low.length, by omega⟩
      have cI := hown.cell (i := i) (by rw [lY.out]; omega)
      obtain ⟨c, hc⟩ : ∃ c, c = ys.getD i 0 := ⟨_, rfl⟩
      rw [← hc] at cI
      have dC : 0 ≤ c ∧ c < p := by rw [hc]; exact digs_at (by omega) dY _
      have HC := hid hc
      clear hc
      have HN : Hid (divF p low r0 (n + 1) = divRow p low i ys) := hid (by rw [divF, ← HY.out, hRl, show mod.length + 1 - 1 - n = i by omega])
      have i0 : (0 : Int) ≤ (i : Int) := by omega
      have i1 : (i : Int) < ((mod.length + 1 : Nat) : Int) := by omega
      have i2 : (i : Int) < (mod.length : Int) + 1 := by omega
      have i3 : (low.length : Int) ≤ (i : Int) := by omega
      have Hi := hid hi
      have Hs := hid hs
      clear hi hs ei
      go_wp2_with (fail)
      go_loopw [11] (fun vk wr => ∃ (k : Nat) (us : List Int), k ≤ low.length ∧ vk = .int .i64 k ∧ Hid (us.length = mod.length + 1) ∧
        Hid (∀ j, j < mod.length + 1 → us.getD j 0 = if s ≤ j ∧ j < s + k then (ys.getD j 0 + (p - c) * low.getD (j - s) 0) % p else ys.getD j 0) ∧
        Own wr w.heap.size (.slice (some ⟨g, 0, none⟩) (mod.length + 1) cap2) us ∧ Kept w wr) (fun vk _ => low.length - (intOf vk).toNat)
      case atStart => exact ⟨0, ys, by omega, rfl, lY, hid (fun j hj => by rw [if_neg (by omega)]), hown, hkw⟩
      case round =>
        obtain ⟨k, us, hk, rfl, lU, hU, hown, hkw⟩ := hrel
        clear cI
        by_cases hkl : k < low.length
        · have hs' := Hs.out
          have hi' := Hi.out
          have cU := hown.cell (i := s + k) (by rw [lU.out]; omega)
          have fU := hown.frozen (s + k)
          have cL := (hkw.cell' hbl).trans (hlcell k hkl)
          obtain ⟨u, hu⟩ : ∃ c, c = us.getD (s + k) 0 := ⟨_, rfl⟩
          obtain ⟨l, hl⟩ : ∃ c, c = low.getD k 0 := ⟨_, rfl⟩
          rw [← hu] at cU
          rw [← hl] at cL
          have hUk : Hid (u = ys.getD (s + k) 0) := hid (by rw [hu, hU.out (s + k) (by omega), if_neg (by omega)])
          have dU : 0 ≤ u ∧ u < p := by rw [hUk.out]; exact digs_at (by omega) dY _
          have dL : 0 ≤ l ∧ l < p := by rw [hl]; exact digs_at (by omega) hld _
          have HLk := hid hl
          clear hu hl
          obtain ⟨b1, b2, b3⟩ := div_bd hp hp2 dC dL dU
          have j0 : (0 : Int) ≤ (k : Int) := by omega
          have j1 : (k : Int) < (low.length : Int) := by omega
          have j2 : (0 : Int) ≤ (s : Int) + (k : Int) := by omega
          have j3 : (s : Int) + (k : Int) < ((mod.length + 1 : Nat) : Int) := by omega
          have j4 : (s : Int) + (k : Int) < (mod.length : Int) + 1 := by omega
          have j5 : ((s : Int) + (k : Int)).toNat = s + k := by omega
          have e1 : Hid ((i : Int) - (low.length : Int) = (s : Int)) := hid (by omega)
          clear hs' hi'
          have hset := hown.drew.set (s + k) ((u + (p - c) * l) % p)
          have hbs := Below.setCell hkw.drew (p := ⟨g, s + k, none⟩) hg3 (.int .i64 ((u + (p - c) * l) % p))
          go_wp2_with (fail)
          have x1 : IntKind.i64.wrap ((i : Int) - (low.length : Int)) = (s : Int) := by rw [e1.out]; exact IntWalk.i64_in _ (by omega)
          have x2 : IntKind.i64.wrap ((s : Int) + (k : Int)) = (s : Int) + (k : Int) := IntWalk.i64_in _ (by clear x1; omega)
          have x3 : IntKind.i64.wrap (p - c) = p - c := IntWalk.i64_in _ (by clear x1 x2; omega)
          have x4 : IntKind.i64.wrap ((p - c) * l) = (p - c) * l := IntWalk.i64_in _ (by clear x1 x2 x3; omega)
          have x5 : IntKind.i64.wrap (u + (p - c) * l) = u + (p - c) * l := IntWalk.i64_in _ (by clear x1 x2 x3 x4; omega)
          go_region
          clear x1 x2 x3 x4 x5
          clear hown hkw
          go_wp2_with (fail)
          go_roundw
          case rel => exact ⟨k + 1, us.set (s + k) ((u + (p - c) * l) % p), by omega, by go_num, hid (by simp [lU.out]), hid (fun j hj => by
            by_cases ej : j = s + k
            · subst ej
              rw [if_pos (by omega), show s + k - s = k by omega, ← hUk.out, ← HLk.out]
              simp [List.getD, lU.out, hj]
            · have h1 : (us.set (s + k) ((u + (p - c) * l) % p)).getD j 0 = us.getD j 0 := by simp [List.getD, List.getElem?_set_ne (show s + k ≠ j by omega)]
              rw [h1, hU.out j hj]
              by_cases h2 : s ≤ j ∧ j < s + k
              · rw [if_pos h2, if_pos (by omega)]
              · rw [if_neg h2, if_neg (by omega)]), hset, hbs⟩
          case measure => simp [intOf]; omega
        · have ek : k = low.length := by omega
          subst ek
          have hs' := Hs.out
          have hi' := Hi.out
          have fI := hown.frozen i
          have cI := hown.cell (i := i) (by rw [lU.out]; omega)
          obtain ⟨u, hu⟩ : ∃ c, c = us.getD i 0 := ⟨_, rfl⟩
          rw [← hu] at cI
          clear hu
          have hset := hown.set i 0
          have hbs := Below.setCell hkw (p := ⟨g, i, none⟩) hg3 (.int .i64 0)
          have e : Hid (us.set i 0 = divF p low r0 (n + 1)) := hid (by
            rw [HN.out]
            refine list_eq_of (by rw [List.length_set, length_divRow, lU.out, lY.out]) (fun j hj => ?_)
            rw [List.length_set, lU.out] at hj
            rw [divRow_at (by rw [lY.out]; exact hj), show i - low.length = s by omega, ← HC.out]
            by_cases ej : j = i
            · subst ej; rw [if_pos rfl]; simp [List.getD, lU.out, hj]
            · have h1 : (us.set i 0).getD j 0 = us.getD j 0 := by simp [List.getD, List.getElem?_set_ne (show i ≠ j by omega)]
              rw [h1, if_neg ej, hU.out j hj]
              by_cases h2 : s ≤ j ∧ j < i
              · rw [if_pos (by omega), if_pos h2]
              · rw [if_neg (by omega), if_neg h2])
          rw [e.out] at hset
          have hmeas : (s : Int) + 1 ≤ (i : Int) + 1 := by omega
          have hstep : (i : Int) - 1 = (mod.length : Int) - ((n + 1 : Nat) : Int) := by omega
          have Hst := hid hstep
          have hn1 : n + 1 ≤ mod.length + 1 - low.length := by omega
          clear hown hkw hs' hi' hstep
          go_wp2_with (fail)
          go_roundw
          case rel => exact ⟨n + 1, hn1, val_int Hst.out, hset, hbs⟩
          case measure => simp [intOf]; omega
    · have en : n = mod.length + 1 - low.length := by omega
      have hlt' : (i : Int) < (low.length : Int) := by omega
      have HR : Hid (r = true ↔ ∀ x ∈ ys, x = 0) := hid (by rw [HY.out, en]; exact HRR.out)
      clear hlt ei hi en HY
      go_wp2_with (fail)
      go_loop [12] (fun vi => ∃ k : Nat, k ≤ mod.length + 1 ∧ vi = .int .i64 k ∧ Hid (∀ j, j < k → ys.getD j 0 = 0)) (fun vi => mod.length + 1 - (intOf vi).toNat)
      case atStart => exact ⟨0, by omega, rfl, hid (fun j hj => by omega)⟩
      case round =>
        obtain ⟨k, hk, rfl, hd⟩ := hrel
        by_cases hkl : k < mod.length + 1
        · have cK := hown.cell (i := k) (by rw [lY.out]; exact hkl)
          obtain ⟨z, hz⟩ : ∃ z, z = ys.getD k 0 := ⟨_, rfl⟩
          rw [← hz] at cK
          have HZ := hid hz
          clear hz
          have hmem : Hid (z ∈ ys) := hid (by
            rw [HZ.out]
            simp only [List.getD, List.getElem?_eq_getElem (show k < ys.length by rw [lY.out]; exact hkl), Option.getD_some]; exact List.getElem_mem _)
          have j1 : (k : Int) < (mod.length : Int) + 1 := by omega
          by_cases h0 : z = 0
          · subst h0
            go_wp2_with (fail)
            go_round
            case rel => exact ⟨k + 1, by omega, by go_num, hid (fun j hj => by
              by_cases e : j = k
              · rw [e, ← HZ.out]
              · exact hd.out j (by omega))⟩
            case measure => simp [intOf]; omega
          · have hrf : r = false := by
              cases r
              · rfl
              · exact absurd (HR.out.1 rfl z hmem.out) h0
            subst hrf
            have tz : (z != 0) = true := by simpa using h0
            clear h0
            go_wp2_with (fail)
            go_ret
            exact ⟨rfl, hkw⟩
        · have j1 : ¬ (k : Int) < (mod.length : Int) + 1 := by omega
          have hrt : r = true := HR.out.2 (fun x hx => by
            obtain ⟨j, hj, rfl⟩ := List.getElem_of_mem hx
            have := hd.out j (by rw [lY.out] at hj; omega)
            simpa only [List.getD, List.getElem?_eq_getElem hj, Option.getD_some] using this)
          subst hrt
          go_wp2_with (fail)
          go_ret
          exact ⟨rfl, hkw⟩
end Go.Proofs.Ytmakdclgpeochaa
