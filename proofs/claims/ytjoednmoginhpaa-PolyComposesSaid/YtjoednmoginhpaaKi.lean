/- The walks of Compose and Reverse of polynomials. Conditions: the field lies in memory with its tables; lengths are bounded. -/
import Derived.Test.YtjoednmoginhpaaKf
import Derived.Test.YtjoednmoginhpaaKw
namespace Go.Proofs.Ytjoednmoginhpaa
open Go.RowKit Cw

theorem reverse_no (b : Nat) (G : GFd) (t : Tabs G) (v : Value) (p : List Int) (n : Int) (w : World) (hg : IsGF w b G) (hv : Sl w v p) (hl : p.length ≤ 1000000) (hn : n < 0 ∨ 4096 < n ∨ n + 1 < (t.pl p).ln) (hn1 : n ≤ 9223372036854775807) :
    Calls Try.prog 35 #[.pointer (some ⟨b, 0, none⟩), v, .int .i64 n] w fun e w' => e = .returned (.tuple #[.slice none 0 0, .int .i64 6]) ∧ Kept w w' := by
  have HN := hid hn
  clear hn
  go_enter Try.func35, Try.ntmps35
  go_wp2_with (fail)
  refine (canon_p b G t v p _ hg hv hl).mono ?_
  rintro e w1 ⟨v1, l1, rfl, o1, k1, c1, p1⟩
  have hlen : l1.length ≤ 1000000 := by have := t.can_ln' c1 p1; have := t.pl_ln_le p; omega
  have HN' : Hid (n < 0 ∨ 4096 < n ∨ n + 1 < (l1.length : Int)) := hid (by have := t.can_ln' c1 p1; have := HN.out; omega)
  obtain ⟨a1, cp1, rfl, h1, h2⟩ := o1.sh
  clear p1 HN
  by_cases q1 : n < (l1.length : Int) - 1
  · have t1 : decide (n < (l1.length : Int) - 1) = true := by simpa using q1
    clear q1
    go_wp2_with (fail)
    go_ret2
    exact ⟨rfl, k1⟩
  have q1' : (l1.length : Int) - 1 ≤ n := by omega
  have t1 : decide (n < (l1.length : Int) - 1) = false := by simpa using q1'
  by_cases q2 : n < 0
  · clear q1
    go_wp2_with (fail)
    go_ret2
    exact ⟨rfl, k1⟩
  have q2' : 0 ≤ n := by omega
  have q3 : 4096 < n := by have := HN'.out; omega
  clear q1 q2
  go_wp2_with (fail)
  go_ret2
  exact ⟨rfl, k1⟩

theorem pl_rv {G : GFd} (t : Tabs G) {l us : List Int} {n : Nat} (hu : us.length = n + 1) (h : ∀ i, i ≤ n → us.getD i 0 = l.getD (n - i) 0) : t.pl us = Pl.rv n (t.pl l) := Pl.ext (PS.ext fun i => by
  rw [Pl.rv_at]
  by_cases hi : i ≤ n
  · rw [if_pos hi, t.pl_at, t.pl_at, h i hi]
  · rw [if_neg hi, t.pl_at, ld_out (by omega), t.e_zero])
set_option maxRecDepth 100000 in
set_option maxHeartbeats 2000000 in
theorem reverse_p (b : Nat) (G : GFd) (t : Tabs G) (v : Value) (p : List Int) (n : Nat) (w : World) (hg : IsGF w b G) (hv : Sl w v p) (hl : p.length ≤ 1000000) (hn : n ≤ 4096) (hd : (t.pl p).ln ≤ n + 1) :
    Calls Try.prog 35 #[.pointer (some ⟨b, 0, none⟩), v, .int .i64 n] w (OutE G t (Pl.rv n (t.pl p)) w) := by
  have hn0 : (0 : Int) ≤ (n : Int) := by omega
  have hn1 : (n : Int) ≤ 4096 := by omega
  go_enter Try.func35, Try.ntmps35
  go_wp2_with (fail)
  refine (canon_p b G t v p _ hg hv hl).mono ?_
  rintro e w1 ⟨v1, l1, rfl, o1, k1, c1, p1⟩
  have hln : l1.length ≤ n + 1 := by have := t.can_ln' c1 p1; omega
  obtain ⟨a1, cp1, rfl, h1, h2⟩ := o1.sh
  have t1 : (l1.length : Int) - 1 ≤ (n : Int) := by omega
  have t2 : decide ((n : Int) < (l1.length : Int) - 1) = false := by simpa using t1
  have P1 := hid p1
  have hz1 := k1.size
  have S1 := o1.sl
  obtain ⟨a', cap', e', _, _, hc⟩ := S1
  cases e'
  have HC := hid hc
  clear p1 hd hc
  go_wp2_with (at_make; refine wpList_make_ints rfl _ _ rfl (n + 1) _ _ rfl rfl (by first | rfl | omega) (by first | rfl | omega) (by omega) ?_; intro w2 ho hk)
  go_loopw [33] (fun vi wr => ∃ (k : Nat) (us : List Int), k ≤ l1.length ∧ vi = .int .i64 k ∧ Hid (us.length = n + 1) ∧ Hid (∀ i, i ≤ n → us.getD i 0 = if n - i < k then l1.getD (n - i) 0 else 0) ∧
      Own wr w1.heap.size (.slice (some ⟨w1.heap.size, 0, none⟩) (n + 1) (n + 1)) us ∧ Kept w1 wr) (fun vi _ => l1.length - (intOf vi).toNat)
  case atStart => exact ⟨0, _, by omega, rfl, hid (by simp), hid (fun i hi => by
    rw [if_neg (by omega)]
    have : i < n + 1 := by omega
    simp [this]), ho, hk⟩
  case round =>
    obtain ⟨k, us, hkp, rfl, hul, hus, hown, hkw⟩ := hrel
    clear ho hk
    by_cases hlt : k < l1.length
    · obtain ⟨bp, off, rfl, hbp, hcell⟩ := HC.out (by intro e; rw [e] at hlt; simp at hlt)
      have hck := (Kept.cell' hkw hbp).trans (hcell k hlt)
      obtain ⟨z, hz⟩ : ∃ z, z = l1.getD k 0 := ⟨_, rfl⟩
      rw [← hz] at hck
      have HZ := hid hz
      obtain ⟨j, hj⟩ : ∃ j, n = k + j := ⟨n - k, by omega⟩
      have ej : (n : Int) - (k : Int) = (j : Int) := by omega
      have hus' : Hid (∀ i, i ≤ n → (us.set j z).getD i 0 = if n - i < k + 1 then l1.getD (n - i) 0 else 0) := hid (fun i hi => by
        by_cases e : i = j
        · subst e
          rw [ldset_eq _ (by rw [hul.out]; omega), if_pos (by omega), show n - i = k by omega, ← HZ.out]
        · rw [ldset_ne _ (fun h => e h.symm), hus.out i hi]
          by_cases h2 : n - i < k
          · rw [if_pos h2, if_pos (by omega)]
          · rw [if_neg h2, if_neg (by omega)])
      have hcu := hown.cell (i := j) (by rw [hul.out]; omega)
      have hfu := hown.frozen j
      have hki : (k : Int) < (l1.length : Int) := by omega
      have j0 : (0 : Int) ≤ (j : Int) := by omega
      have j1 : (j : Int) < (n : Int) + 1 := by omega
      have j2 : (n : Int) - (k : Int) < (n : Int) + 1 := by omega
      have j3 : (0 : Int) ≤ (n : Int) - (k : Int) := by omega
      have j4 : ((n : Int) - (k : Int)).toNat = j := by omega
      have HJ := hid hj
      have hset := hown.set j z
      have hbs := Below.setCell hkw (p := ⟨w1.heap.size, j, none⟩) (Nat.le_refl _) (.int .i64 z)
      clear hz hcell hj ej
      go_wp2_with (fail)
      go_roundw
      case rel => exact ⟨k + 1, us.set j z, by omega, by go_num, hid (by simp [hul.out]), hus', hset, hbs⟩
      case measure => simp [intOf]; omega
    · have ek : k = l1.length := by omega
      have hfin : Hid (∀ i, i ≤ n → us.getD i 0 = l1.getD (n - i) 0) := hid (fun i hi => by
        rw [hus.out i hi]
        by_cases h2 : n - i < k
        · rw [if_pos h2]
        · rw [if_neg h2, ld_out (by omega)])
      have hran : ∀ i, 0 ≤ us.getD i 0 ∧ us.getD i 0 < G.q := fun i => by
        by_cases hi : i ≤ n
        · rw [hfin.out i hi]; exact t.can_range' c1 _
        · rw [ld_out (by rw [hul.out]; omega)]; have := t.qb; omega
      have HR := hid hran
      clear ek hus hran
      go_wp2_with (go_at_call 67; (with_reducible refine (trim_pl t hown HR.out).mono ?_); rintro e w3 ⟨n3, l3, rfl, o3, ⟨m3, rfl⟩, c3, p3⟩; have P3 := hid p3; clear p3)
      go_ret2
      exact ⟨_, l3, rfl, o3.mono hz1, (k1.tr hkw).drewN _, c3, by rw [P3.out, pl_rv t hul.out hfin.out, P1.out]⟩

theorem compose_big (b : Nat) (G : GFd) (t : Tabs G) (vp vq : Value) (p q : List Int) (w : World) (hg : IsGF w b G) (hvp : Sl w vp p) (hvq : Sl w vq q) (hlp : p.length ≤ 100000) (hlq : q.length ≤ 100000)
    (hz : 256 < ((t.pl p).ln - 1) * ((t.pl q).ln - 1)) :
    Calls Try.prog 50 #[.pointer (some ⟨b, 0, none⟩), vp, vq] w fun e w' => e = .returned (.tuple #[.slice none 0 0, .int .i64 8]) ∧ Kept w w' := by
  have HZ := hid hz
  clear hz
  go_enter Try.func50, Try.ntmps50
  go_wp2_with (fail)
  refine (canon_p b G t vp p _ hg hvp (by omega)).mono ?_
  rintro e w1 ⟨v1, l1, rfl, o1, k1, c1, p1⟩
  have hn1 : l1.length ≤ 100000 := by have := t.can_ln' c1 p1; have := t.pl_ln_le p; omega
  have e1 := hid (t.can_ln' c1 p1)
  obtain ⟨a1, cp1, rfl, h1, h2⟩ := o1.sh
  clear p1
  go_wp2_with (fail)
  refine (canon_p b G t vq q _ (hg.kept k1) (hvq.kept k1) (by omega)).mono ?_
  rintro e w2 ⟨v2, l2, rfl, o2, k2, c2, p2⟩
  have hn2 : l2.length ≤ 100000 := by have := t.can_ln' c2 p2; have := t.pl_ln_le q; omega
  have e2 := hid (t.can_ln' c2 p2)
  obtain ⟨a2, cp2, rfl, h3, h4⟩ := o2.sh
  clear p2
  have hz := HZ.out
  rw [← e1.out, ← e2.out] at hz
  obtain ⟨m, hm⟩ : ∃ m, l1.length = m + 1 := ⟨l1.length - 1, by
    rcases Nat.eq_zero_or_pos l1.length with g | g
    · rw [g] at hz; simp at hz
    · omega⟩
  obtain ⟨n, hn⟩ : ∃ n, l2.length = n + 2 := ⟨l2.length - 2, by
    rcases Nat.lt_or_ge l2.length 2 with g | g
    · rw [show l2.length - 1 = 0 by omega] at hz; simp at hz
    · omega⟩
  rw [hm, hn, Nat.add_sub_cancel, show n + 2 - 1 = n + 1 by omega] at hz
  rw [hm] at h1 hn1 ⊢
  rw [hn] at h3 hn2 ⊢
  have q1 : (256 : Int) / ((n : Int) + 1) < (m : Int) := by
    refine Int.ediv_lt_of_lt_mul (by omega) ?_
    rw [← Int.natCast_one, ← Int.natCast_add, ← Int.natCast_mul]
    exact Int.ofNat_lt.2 hz
  have q2 : ((m + 1 : Nat) : Int) - 1 = (m : Int) := by omega
  have q3 : (m : Int) + 1 - 1 = (m : Int) := by omega
  have q4 : ((n + 2 : Nat) : Int) - 1 = (n : Int) + 1 := by omega
  have q5 : (n : Int) + 2 - 1 = (n : Int) + 1 := by omega
  have q6 : (0 : Int) ≤ (n : Int) := by omega
  have q7 : (0 : Int) ≤ (m : Int) := by omega
  have q8 : ¬ (n : Int) + 1 = 0 := by omega
  clear hz hm hn
  go_wp2_with (fail)
  all_goals
    go_ret2
    exact ⟨rfl, k1.tr k2⟩
end Go.Proofs.Ytjoednmoginhpaa
