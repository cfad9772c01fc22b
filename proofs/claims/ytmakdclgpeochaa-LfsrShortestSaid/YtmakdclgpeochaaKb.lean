/- The walks of combine, Add and Sub of polynomials. Conditions: the field lies in memory with its tables; lengths are bounded. -/
import Derived.Test.YtmakdclgpeochaaKa
import Derived.Test.YtmakdclgpeochaaGb
import Derived.Deep.RegionHeld3
import Derived.WalkLawsBesides
namespace Go.Proofs.Ytmakdclgpeochaa
open Go.RowKit Cw

/-- The sum, coefficient by coefficient. -/
theorem po_comb {G : GFd} (t : Tabs G) {p q us : List Int} (a : Int) (h : ∀ i, us.getD i 0 = addG G (inn G.q (p.getD i 0)) (mulG G a (q.getD i 0))) : t.po us = t.po p + PS.C (t.e a) * t.po q := PS.ext fun i => by
  rw [PS.add_at, PS.C_mul_at, t.po_at, h, t.e_add, t.e_inn, t.e_mul]; rfl

set_option maxRecDepth 100000 in
set_option maxHeartbeats 2000000 in
theorem combine_any (b : Nat) (G : GFd) (t : Tabs G) (vp vq : Value) (p q : List Int) (a : Int) (w : World) (hg : IsGF w b G) (hvp : Sl w vp p) (hvq : Sl w vq q) (hlp : p.length ≤ 100000) (hlq : q.length ≤ 100000) :
    Calls Try.prog 70 #[.pointer (some ⟨b, 0, none⟩), vp, .int .i64 a, vq] w fun e w' => ∃ g k cap l, e = .returned (.slice (some ⟨g, 0, none⟩) k cap) ∧ Own w' w.heap.size (.slice (some ⟨g, 0, none⟩) k cap) l ∧ Kept w w' ∧ Cano G l ∧ t.po l = t.po p + PS.C (t.e a) * t.po q ∧ l.length ≤ max p.length q.length := by
  obtain ⟨ap, capp, rfl, hcapp, ⟨hcmp, _⟩, hcp⟩ := hvp
  obtain ⟨aq, capq, rfl, hcapq, ⟨hcmq, _⟩, hcq⟩ := hvq
  unfold maxLen at hcmp hcmq
  have q0 : 0 < G.q := by have := t.qb; omega
  have hbl := hg.lt
  obtain ⟨n, hn⟩ : ∃ n, n = max p.length q.length := ⟨_, rfl⟩
  have hnp : p.length ≤ n := by omega
  have hnq : q.length ≤ n := by omega
  have hn1 : n ≤ 100000 := by omega
  have HN := hid hn
  clear hn
  go_enter Try.func70, Try.ntmps70
  go_wp2_with (at_make; refine wpList_make_ints rfl _ _ rfl n _ _ rfl rfl (by have := HN.out; omega) (by have := HN.out; omega) (by omega) ?_; intro w1 ho hk)
  all_goals
    go_loopw [22] (fun vi wr => ∃ (k : Nat) (us : List Int), k ≤ p.length ∧ vi = .int .i64 k ∧ Hid (us.length = n) ∧ Hid (∀ i, us.getD i 0 = if i < k then inn G.q (p.getD i 0) else 0) ∧
      Own wr w.heap.size (.slice (some ⟨w.heap.size, 0, none⟩) n n) us ∧ Kept w wr) (fun vi _ => p.length - (intOf vi).toNat)
    case atStart => exact ⟨0, _, by omega, rfl, hid (by simp), hid (fun i => by
      rw [if_neg (by omega)]
      by_cases hi : i < n
      · simp [hi]
      · rw [ld_out (by simp; omega)]), ho, hk⟩
    case round =>
      obtain ⟨k, us, hkp, rfl, hul, hus, hown, hkw⟩ := hrel
      clear ho hk
      have hgw := hg.kept hkw
      by_cases hlt : k < p.length
      · obtain ⟨bp, off, rfl, hbp, hcell⟩ := hcp (by intro e; rw [e] at hlt; simp at hlt)
        have hck := (Kept.cell' hkw hbp).trans (hcell k hlt)
        obtain ⟨z, hz⟩ : ∃ z, z = p.getD k 0 := ⟨_, rfl⟩
        rw [← hz] at hck
        have HZ := hid hz
        have hcu := hown.cell (i := k) (by rw [hul.out]; omega)
        have hfu := hown.frozen k
        have hki : (k : Int) < (p.length : Int) := by omega
        have hkn : (k : Int) < (n : Int) := by omega
        have hus' : Hid (∀ i, (us.set k (inn G.q z)).getD i 0 = if i < k + 1 then inn G.q (p.getD i 0) else 0) := hid (fun i => by
          by_cases e : i = k
          · subst e
            rw [ldset_eq _ (by rw [hul.out]; omega), if_pos (by omega), ← HZ.out]
          · rw [ldset_ne _ (fun h => e h.symm), hus.out i]
            by_cases h2 : i < k
            · rw [if_pos h2, if_pos (by omega)]
            · rw [if_neg h2, if_neg (by omega)])
        clear hz hcell hcp
        go_wp2_with (go_at_call 45; (with_reducible refine (add_any b G z 0 _ hgw t).mono ?_); rintro e w2 ⟨rfl, n2, rfl⟩; rw [t.add_zero])
        have hset := (hown.drewN n2).set k (inn G.q z)
        have hbs := Below.setCell (hkw.drewN n2) (p := ⟨w.heap.size, k, none⟩) (Nat.le_refl _) (.int .i64 (inn G.q z))
        go_roundw
        case rel => exact ⟨k + 1, us.set k (inn G.q z), by omega, by go_num, hid (by simp [hul.out]), hus', hset, hbs⟩
        case measure => simp [intOf]; omega
      · have hin : Hid (∀ i, us.getD i 0 = inn G.q (p.getD i 0)) := hid (fun i => by
          rw [hus.out i]
          by_cases h2 : i < k
          · rw [if_pos h2]
          · rw [if_neg h2, ld_out (by omega), inn_yes (by omega)])
        clear hus
        go_wp2_with (fail)
        go_loopw [36] (fun vi wr => ∃ (k : Nat) (us : List Int), k ≤ q.length ∧ vi = .int .i64 k ∧ Hid (us.length = n) ∧ Hid (∀ i, us.getD i 0 = if i < k then addG G (inn G.q (p.getD i 0)) (mulG G a (q.getD i 0)) else inn G.q (p.getD i 0)) ∧
          Own wr w.heap.size (.slice (some ⟨w.heap.size, 0, none⟩) n n) us ∧ Kept w wr) (fun vi _ => q.length - (intOf vi).toNat)
        case atStart => exact ⟨0, us, by omega, rfl, hul, hid (fun i => by rw [if_neg (by omega)]; exact hin.out i), hown, hkw⟩
        case round =>
          obtain ⟨k, us, hkp, rfl, hul, hus, hown, hkw⟩ := hrel
          clear hin
          have hgw := hg.kept hkw
          by_cases hlt : k < q.length
          · obtain ⟨bp, off, rfl, hbp, hcell⟩ := hcq (by intro e; rw [e] at hlt; simp at hlt)
            have hck := (Kept.cell' hkw hbp).trans (hcell k hlt)
            obtain ⟨z, hz⟩ : ∃ z, z = q.getD k 0 := ⟨_, rfl⟩
            rw [← hz] at hck
            have HZ := hid hz
            have hcu := hown.cell (i := k) (by rw [hul.out]; omega)
            obtain ⟨u, hu⟩ : ∃ z, z = us.getD k 0 := ⟨_, rfl⟩
            rw [← hu] at hcu
            have hfu := hown.frozen k
            have hki : (k : Int) < (q.length : Int) := by omega
            have hkn : (k : Int) < (n : Int) := by omega
            have hk0 : (0 : Int) ≤ (k : Int) := by omega
            have hus' : Hid (∀ i, (us.set k (addG G u (mulG G a z))).getD i 0 = if i < k + 1 then addG G (inn G.q (p.getD i 0)) (mulG G a (q.getD i 0)) else inn G.q (p.getD i 0)) := hid (fun i => by
              by_cases e : i = k
              · subst e
                rw [ldset_eq _ (by rw [hul.out]; omega), if_pos (by omega), ← HZ.out, hu, hus.out, if_neg (by omega)]
              · rw [ldset_ne _ (fun h => e h.symm), hus.out i]
                by_cases h2 : i < k
                · rw [if_pos h2, if_pos (by omega)]
                · rw [if_neg h2, if_neg (by omega)])
            clear hz hu hcell hcq
            go_wp2_with (fail)
            go_region_law (first
              | (go_simp; go_at_call 62; (with_reducible refine (mul_any b G a z _ (by first | exact hgw.drew | exact hgw.drewN _ | exact hgw.drew.drewN _) t).mono ?_); rintro e w2 ⟨rfl, n2, rfl⟩)
              | (go_simp; go_at_call 45; (with_reducible refine (add_any b G u (mulG G a z) _ (by first | exact hgw.drew | exact hgw.drewN _ | exact hgw.drew.drewN _) t).mono ?_); rintro e w3 ⟨rfl, n3, rfl⟩))
            all_goals
              go_wp2_with (fail)
              go_roundw
              case rel =>
                refine ⟨k + 1, us.set k (addG G u (mulG G a z)), by omega, by go_num, hid (by simp [hul.out]), hus', ?_, ?_⟩
                · first | exact (hown.drewN _).set k _ | exact ((hown.drewN _).set k _).drew | exact (hown.set k _).drewN _ | exact ((hown.set k _).drewN _).drew | exact (hown.set k _).drew
                · first | exact Below.setCell (hkw.drewN _) (p := ⟨w.heap.size, k, none⟩) (Nat.le_refl _) _ | exact (Below.setCell (hkw.drewN _) (p := ⟨w.heap.size, k, none⟩) (Nat.le_refl _) _).drew | exact Kept.drewN (Below.setCell hkw (p := ⟨w.heap.size, k, none⟩) (Nat.le_refl _) _) _
              case measure => simp [intOf]; omega
          · have ek : k = q.length := by omega
            have hfin : Hid (∀ i, us.getD i 0 = addG G (inn G.q (p.getD i 0)) (mulG G a (q.getD i 0))) := hid (fun i => by
              rw [hus.out i]
              by_cases h2 : i < k
              · rw [if_pos h2]
              · rw [if_neg h2]
                have hi := inn_bd q0 (p.getD i 0)
                refine t.e_eq hi (t.add_bd _ _) ?_
                rw [t.e_add, t.e_mul, ld_out (l := q) (by omega), t.e_zero, Rg.mul_zero, Rg.add_zero, t.e_inn])
            clear ek hus
            go_wp2_with (go_at_call 61; (with_reducible refine (trim_own _ _ _ _ us _ hown).mono ?_); rintro e w2 ⟨n2, rfl, ht, m2, rfl⟩; have HT := hid ht; clear ht)
            go_ret
            exact ⟨_, n2, _, us.take n2, rfl, (hown.take HT.out.1).drewN _, hkw.drewN _, can_of (fun i => by rw [hfin.out]; exact t.add_bd _ _) HT.out, by rw [t.po_take HT.out.2.1, po_comb t a hfin.out], by rw [List.length_take]; have := HT.out.1; have := hul.out; have := HN.out; omega⟩

theorem psub_any (b : Nat) (G : GFd) (t : Tabs G) (vp vq : Value) (p q : List Int) (w : World) (hg : IsGF w b G) (hvp : Sl w vp p) (hvq : Sl w vq q) (hlp : p.length ≤ 100000) (hlq : q.length ≤ 100000) :
    Calls Try.prog 57 #[.pointer (some ⟨b, 0, none⟩), vp, vq] w (OutV G t (t.po p - t.po q) (max p.length q.length) w) := by
  go_enter Try.func57, Try.ntmps57
  go_wp2_with (first
    | (go_at_call 46; (with_reducible refine (neg_any b G 1 _ hg t).mono ?_); rintro e w0 ⟨rfl, n0, rfl⟩)
    | (go_at_call 70; (with_reducible refine (combine_any b G t vp vq p q (negG G 1) _ (hg.drewN _) (hvp.kept (kept_drewN _ _)) (hvq.kept (kept_drewN _ _)) hlp hlq).mono ?_); rintro e w1 ⟨g, k, cap, l, rfl, o1, k1, c1, p1, l1⟩; have P1 := hid p1; clear p1))
  go_ret
  exact ⟨_, l, rfl, o1, Kept.tr (kept_drewN _ _) k1, c1, by rw [P1.out, t.e_neg, t.e_one, PS.C_neg, PS.C_one, Rg.neg_mul, Rg.one_mul, ← Rg.sub_def], l1⟩
end Go.Proofs.Ytmakdclgpeochaa
