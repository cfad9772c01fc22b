/- The walks of trim, Canon and Degree of the layer of polynomials. Conditions: the field lies in memory with its tables; the length is bounded. -/
import Derived.Test.YtmakdclgpeochaaGi
import Derived.Test.YtmakdclgpeochaaMqA
namespace Go.Proofs.Ytmakdclgpeochaa
open Go.RowKit Cw

/-- What a function on polynomials hands back: a canonical list of its own making, of at most n coefficients. -/
def OutV (G : GFd) (t : Tabs G) (a : PS (Rs t.fs.mon)) (n : Nat) (w : World) (e : Ending) (w' : World) : Prop :=
  ∃ v l, e = .returned v ∧ Own w' w.heap.size v l ∧ Kept w w' ∧ Cano G l ∧ t.po l = a ∧ l.length ≤ n

theorem Own.take {w : World} {B g n cap : Nat} {xs : List Int} (h : Own w B (.slice (some ⟨g, 0, none⟩) n cap) xs) {k : Nat} (hk : k ≤ xs.length) : Own w B (.slice (some ⟨g, 0, none⟩) k cap) (xs.take k) := by
  obtain ⟨h1, h⟩ := h
  rcases h with ⟨h, _⟩ | ⟨g', cap', cur, e, hb, hg, h2, h3, h4, h5⟩
  · cases h
  · cases e
    have hl : (xs.take k).length = k := by simp; omega
    refine ⟨by simp, .inr ⟨g, cap, cur, by rw [hl], hb, hg, by rw [hl]; omega, h3, h4, ?_⟩⟩
    rw [hl, List.map_take, ← h5, List.take_take]
    congr 1
    omega

theorem trim_own (g n cap B : Nat) (l : List Int) (w : World) (ho : Own w B (.slice (some ⟨g, 0, none⟩) n cap) l) :
    Calls Try.prog 61 #[.slice (some ⟨g, 0, none⟩) n cap] w fun e w' => ∃ k, e = .returned (.slice (some ⟨g, 0, none⟩) k cap) ∧ (k ≤ l.length ∧ (∀ i, k ≤ i → l.getD i 0 = 0) ∧ (k = 0 ∨ l.getD (k - 1) 0 ≠ 0)) ∧ ∃ m, w' = w.drewN m := by
  have hn : n = l.length := by
    rcases ho.form with ⟨e, _⟩ | ⟨_, _, e, _⟩
    · cases e
    · cases e; rfl
  subst hn
  have hcap : l.length ≤ cap ∧ cap ≤ maxLen := by
    rcases ho.form with ⟨e, _⟩ | ⟨_, _, e, _, _, h1, h2⟩
    · cases e
    · cases e; exact ⟨h1, h2⟩
  obtain ⟨hc1, hc2⟩ := hcap
  unfold maxLen at hc2
  go_enter Try.func61, Try.ntmps61
  go_wp2_with (fail)
  go_loopw [0] (fun vp wr => ∃ k : Nat, k ≤ l.length ∧ vp = .slice (some ⟨g, 0, none⟩) k cap ∧ Hid (∀ i, k ≤ i → l.getD i 0 = 0) ∧ ∃ m, wr = w.drewN m) (fun vp _ => match vp with | .slice _ k _ => k | _ => 0)
  case atStart => exact ⟨l.length, Nat.le_refl _, rfl, hid (fun i hi => ld_out hi), 0, rfl⟩
  case round =>
    obtain ⟨k, hk, rfl, hz, m, rfl⟩ := hrel
    by_cases h0 : k = 0
    · subst h0
      go_wp2_with (fail)
      go_ret
      exact ⟨0, rfl, ⟨hk, hz.out, .inl rfl⟩, _, rfl⟩
    · obtain ⟨j, rfl⟩ : ∃ j, k = j + 1 := ⟨k - 1, by omega⟩
      have hcell := ho.cell (i := j) (by omega)
      obtain ⟨z, hz'⟩ : ∃ z, z = l.getD j 0 := ⟨_, rfl⟩
      rw [← hz'] at hcell
      have HZ := hid hz'
      have e1 : ((j + 1 : Nat) : Int) - 1 = (j : Int) := by omega
      have e2 : ((j : Int) + 1) - 1 = (j : Int) := by omega
      have hj1 : (j : Int) < ((j + 1 : Nat) : Int) := by omega
      have hjn : (j : Int).toNat = j := by omega
      clear hz'
      by_cases hz0 : z = 0
      · subst hz0
        have hz2 : Hid (∀ i, j ≤ i → l.getD i 0 = 0) := hid (fun i hi => by
          by_cases e : i = j
          · rw [e, ← HZ.out]
          · exact hz.out i (by omega))
        go_wp2_with (fail)
        go_roundw
        case rel => exact ⟨j, by omega, rfl, hz2, _, rfl⟩
        case measure => simp
      · have tz : (z == 0) = false := by simpa using hz0
        have HN := hid hz0
        clear hz0
        go_wp2_with (fail)
        go_ret
        exact ⟨j + 1, rfl, ⟨hk, hz.out, .inr (by rw [Nat.add_sub_cancel, ← HZ.out]; exact HN.out)⟩, _, rfl⟩

theorem can_of {G : GFd} {l : List Int} {k : Nat} (hr : ∀ i, 0 ≤ l.getD i 0 ∧ l.getD i 0 < G.q) (hk : k ≤ l.length ∧ (∀ i, k ≤ i → l.getD i 0 = 0) ∧ (k = 0 ∨ l.getD (k - 1) 0 ≠ 0)) : Cano G (l.take k) :=
  Tabs.can_take (fun x hx => by
    obtain ⟨i, hi, rfl⟩ := List.getElem_of_mem hx
    have := hr i
    simpa only [List.getD, List.getElem?_eq_getElem hi, Option.getD_some] using this) hk.1 hk.2.2

set_option maxHeartbeats 1000000 in
theorem canon_any (b : Nat) (G : GFd) (t : Tabs G) (v : Value) (p : List Int) (w : World) (hg : IsGF w b G) (hv : Sl w v p) (hl : p.length ≤ 1000000) :
    Calls Try.prog 42 #[.pointer (some ⟨b, 0, none⟩), v] w fun e w' => ∃ g k cap l, e = .returned (.slice (some ⟨g, 0, none⟩) k cap) ∧ Own w' w.heap.size (.slice (some ⟨g, 0, none⟩) k cap) l ∧ Kept w w' ∧ Cano G l ∧ t.po l = t.po p ∧ l.length ≤ p.length := by
  obtain ⟨a, cap, rfl, hcap, ⟨hcm, _⟩, hc⟩ := hv
  unfold maxLen at hcm
  have q0 : 0 < G.q := by have := t.qb; omega
  have hbl := hg.lt
  go_enter Try.func42, Try.ntmps42
  go_wp2_with (at_make; refine wpList_make_ints rfl _ _ rfl p.length _ _ rfl rfl rfl rfl hl ?_; intro w1 ho hk)
  go_loopw [13] (fun vi wr => ∃ (k : Nat) (us : List Int), k ≤ p.length ∧ vi = .int .i64 k ∧ Hid (us.length = p.length) ∧ Hid (∀ i, us.getD i 0 = if i < k then inn G.q (p.getD i 0) else 0) ∧
      Own wr w.heap.size (.slice (some ⟨w.heap.size, 0, none⟩) p.length p.length) us ∧ Kept w wr) (fun vi _ => p.length - (intOf vi).toNat)
  case atStart => exact ⟨0, _, by omega, rfl, hid (by simp), hid (fun i => by
    rw [if_neg (by omega)]
    by_cases hi : i < p.length
    · simp [hi]
    · rw [ld_out (by simp; omega)]), ho, hk⟩
  case round =>
    obtain ⟨k, us, hkp, rfl, hul, hus, hown, hkw⟩ := hrel
    clear ho hk
    have hgw := hg.kept hkw
    have hq := hgw.hq
    by_cases hlt : k < p.length
    · obtain ⟨bp, off, rfl, hbp, hcell⟩ := hc (by intro e; rw [e] at hlt; simp at hlt)
      have hck := (Kept.cell' hkw hbp).trans (hcell k hlt)
      obtain ⟨z, hz⟩ : ∃ z, z = p.getD k 0 := ⟨_, rfl⟩
      rw [← hz] at hck
      have HZ := hid hz
      have hcu := hown.cell (i := k) (by rw [hul.out]; exact hlt)
      have hfu := hown.frozen k
      have hki : (k : Int) < (p.length : Int) := by omega
      clear hz hcell hc
      by_cases hr : 0 ≤ z ∧ z < G.q
      · obtain ⟨z0, z1⟩ := hr
        have hus' : Hid (∀ i, (us.set k z).getD i 0 = if i < k + 1 then inn G.q (p.getD i 0) else 0) := hid (fun i => by
          by_cases e : i = k
          · subst e
            rw [ldset_eq _ (by rw [hul.out]; exact hlt), if_pos (by omega), ← HZ.out, inn_yes ⟨z0, z1⟩]
          · rw [ldset_ne _ (fun h => e h.symm), hus.out i]
            by_cases h2 : i < k
            · rw [if_pos h2, if_pos (by omega)]
            · rw [if_neg h2, if_neg (by omega)])
        go_wp2_with (go_at_call 60; (with_reducible refine (is_yes b G.q z _ hq z0 z1).mono ?_); rintro e w2 ⟨rfl, n2, rfl⟩)
        have hset := (hown.drewN n2).set k z
        have hbs := Below.setCell (hkw.drewN n2) (p := ⟨w.heap.size, k, none⟩) (Nat.le_refl _) (.int .i64 z)
        go_roundw
        case rel => exact ⟨k + 1, us.set k z, by omega, by go_num, hid (by simp [hul.out]), hus', hset, hbs⟩
        case measure => simp [intOf]; omega
      · have hr' : z < 0 ∨ G.q ≤ z := by omega
        have hus' : Hid (∀ i, us.getD i 0 = if i < k + 1 then inn G.q (p.getD i 0) else 0) := hid (fun i => by
          rw [hus.out i]
          by_cases e : i = k
          · subst e
            rw [if_neg (by omega), if_pos (by omega), ← HZ.out, inn_no hr]
          · by_cases h2 : i < k
            · rw [if_pos h2, if_pos (by omega)]
            · rw [if_neg h2, if_neg (by omega)])
        clear hr
        go_wp2_with (go_at_call 60; (with_reducible refine (is_no b G.q z _ hq hr').mono ?_); rintro e w2 ⟨rfl, n2, rfl⟩)
        go_roundw
        case rel => exact ⟨k + 1, us, by omega, by go_num, hul, hus', hown.drewN _, hkw.drewN _⟩
        case measure => simp [intOf]; omega
    · have ek : k = p.length := by omega
      have hin : Hid (∀ i, us.getD i 0 = inn G.q (p.getD i 0)) := hid (fun i => by
        rw [hus.out i]
        by_cases h2 : i < k
        · rw [if_pos h2]
        · rw [if_neg h2, ld_out (by omega), inn_yes (by omega)])
      clear ek
      go_wp2_with (go_at_call 61; (with_reducible refine (trim_own _ _ _ _ us _ hown).mono ?_); rintro e w2 ⟨n2, rfl, ht, m2, rfl⟩; have HT := hid ht; clear ht)
      go_ret
      exact ⟨_, n2, _, us.take n2, rfl, (hown.take HT.out.1).drewN _, hkw.drewN _, can_of (fun i => by rw [hin.out]; exact inn_bd q0 _) HT.out, by rw [t.po_take HT.out.2.1, t.po_inn hin.out], by rw [List.length_take]; have := HT.out.1; have := hul.out; omega⟩
end Go.Proofs.Ytmakdclgpeochaa
