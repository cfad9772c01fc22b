/- The walks of Generate and Unique of registers. Conditions: the field lies in memory with its tables; lengths are bounded. -/
import Derived.Test.YtmakdclgpeochaaHb
namespace Go.Proofs.Ytmakdclgpeochaa
open Go.RowKit Cw

theorem mul_head {α : Type} [Cw.Fd α] (a b : PS α) (j : Nat) : (a * b) j = a 0 * b j + Rg.sm j (fun i => a (i + 1) * b (j - (i + 1))) := by
  rw [PS.mul_at, Rg.sm_first, Nat.sub_zero]
/-- The sequence of a register: its first entries, and the recurrence behind them. -/
structure GenP {G : GFd} (t : Tabs G) (c f l : List Int) (n j : Nat) : Prop where
  len : l.length = n
  bd : ∀ i, 0 ≤ l.getD i 0 ∧ l.getD i 0 < G.q
  fst : ∀ i, i < f.length → i < j → l.getD i 0 = inn G.q (f.getD i 0)
  gen : ∀ i, f.length ≤ i → i < j → ((t.pl c).a * t.po l) i = 0
  zer : ∀ i, j ≤ i → l.getD i 0 = 0
theorem gen_start {G : GFd} (t : Tabs G) (c f : List Int) (n : Nat) : GenP t c f (List.replicate n 0) n 0 := by
  have hz : ∀ i, (List.replicate n (0 : Int)).getD i 0 = 0 := fun i => by
    by_cases hi : i < n
    · simp [List.getD, hi]
    · simp [List.getD, hi]
  have := t.qb
  exact ⟨by simp, fun i => by rw [hz]; omega, fun i _ h => by omega, fun i _ h => by omega, fun i _ => hz i⟩
theorem po_set_low {G : GFd} (t : Tabs G) (l : List Int) (j : Nat) (y : Int) : ∀ i, i < j → t.po l i = t.po (l.set j y) i := fun i hi => by
  show t.e (l.getD i 0) = t.e ((l.set j y).getD i 0)
  rw [ldset_ne _ (by omega)]
theorem gen_set {G : GFd} {t : Tabs G} {c f l : List Int} {n j : Nat} (h : GenP t c f l n j) (hj : j < n) {y : Int} (hy : 0 ≤ y ∧ y < G.q) (hf : j < f.length → y = inn G.q (f.getD j 0)) (hg : f.length ≤ j → ((t.pl c).a * t.po (l.set j y)) j = 0) : GenP t c f (l.set j y) n (j + 1) := by
  refine ⟨by rw [List.length_set, h.len], fun i => ?_, fun i h1 h2 => ?_, fun i h1 h2 => ?_, fun i h1 => ?_⟩
  · by_cases e : i = j
    · subst e; rw [ldset_eq _ (by rw [h.len]; exact hj)]; exact hy
    · rw [ldset_ne _ (fun e' => e e'.symm)]; exact h.bd i
  · by_cases e : i = j
    · subst e; rw [ldset_eq _ (by rw [h.len]; exact hj)]; exact hf h1
    · rw [ldset_ne _ (fun e' => e e'.symm)]; exact h.fst i h1 (by omega)
  · by_cases e : i = j
    · subst e; exact hg h1
    · rw [← Pl.mul_low_congr (n := j) (po_set_low t l j y) i (by omega)]
      exact h.gen i h1 (by omega)
  · rw [ldset_ne _ (by omega)]; exact h.zer i (by omega)
/-- The next entry by the recurrence. -/
theorem gen_next {G : GFd} {t : Tabs G} {c f l : List Int} {n j : Nat} (h : GenP t c f l n j) (hj : j < n) (h1 : (t.pl c).a 0 = 1) {y : Int} (hy : t.e y = -((t.pl c).a * t.po l) j) : ((t.pl c).a * t.po (l.set j y)) j = 0 := by
  have e1 : t.po (l.set j y) j = t.e y := by
    show t.e ((l.set j y).getD j 0) = _
    rw [ldset_eq _ (by rw [h.len]; exact hj)]
  have e2 : t.po l j = 0 := by
    show t.e (l.getD j 0) = 0
    rw [h.zer j (Nat.le_refl _), t.e_zero]
  have e3 : Rg.sm j (fun i => (t.pl c).a (i + 1) * t.po (l.set j y) (j - (i + 1))) = ((t.pl c).a * t.po l) j := by
    rw [mul_head, e2, Rg.mul_zero, Rg.zero_add]
    exact Rg.sm_congr fun i hi => by rw [← po_set_low t l j y (j - (i + 1)) (by omega)]
  rw [mul_head, e3, h1, Rg.one_mul, e1, hy, Rg.neg_add]
theorem gen_unique {G : GFd} {t : Tabs G} {c f l l' : List Int} {n : Nat} (h : GenP t c f l n n) (h' : GenP t c f l' n n) (h1 : (t.pl c).a 0 = 1) : l = l' := by
  have key : ∀ m i, i < m → l.getD i 0 = l'.getD i 0 := fun m => by
    induction m with
    | zero => intro i hi; omega
    | succ m ih =>
      intro i hi
      by_cases e : i < m
      · exact ih i e
      obtain rfl : i = m := by omega
      by_cases hn : i < n
      · by_cases hf : i < f.length
        · rw [h.fst i hf hn, h'.fst i hf hn]
        · have g1 := h.gen i (by omega) hn
          have g2 := h'.gen i (by omega) hn
          rw [mul_head, h1, Rg.one_mul] at g1 g2
          have e3 : Rg.sm i (fun k => (t.pl c).a (k + 1) * t.po l (i - (k + 1))) = Rg.sm i (fun k => (t.pl c).a (k + 1) * t.po l' (i - (k + 1))) := Rg.sm_congr fun k hk => by
            show _ * t.e (l.getD (i - (k + 1)) 0) = _ * t.e (l'.getD (i - (k + 1)) 0)
            rw [ih _ (by omega)]
          rw [e3] at g1
          exact t.e_eq (h.bd i) (h'.bd i) (Rg.add_right_cancel (g1.trans g2.symm))
      · rw [ld_out (by rw [h.len]; omega), ld_out (by rw [h'.len]; omega)]
  refine List.ext_getElem (by rw [h.len, h'.len]) (fun i j1 j2 => ?_)
  have := key (i + 1) i (by omega)
  rwa [List.getD_eq_getElem?_getD, List.getD_eq_getElem?_getD, List.getElem?_eq_getElem j1, List.getElem?_eq_getElem j2] at this
/-- What Generate asks of the register. -/
theorem regL_iff {G : GFd} (t : Tabs G) {c l1 : List Int} (l : Int) (h1 : Cano G l1) (e : t.pl l1 = t.pl c) : RegL l1 l ↔ (0 ≤ l ∧ (t.pl c).a 0 = 1 ∧ (t.pl c).ln ≤ l.toNat + 1) := by
  have h := holdsP_iff t l [] h1 e
  constructor
  · intro k
    obtain ⟨g0, g1, g2, _⟩ := h.2 ⟨k, fun j _ h => by simp at h⟩
    exact ⟨g0, g1, g2⟩
  · rintro ⟨g0, g1, g2⟩
    exact (h.1 ⟨g0, g1, g2, fun j _ h => by simp at h⟩).1
set_option maxRecDepth 100000 in
set_option maxHeartbeats 2000000 in
theorem generate_form (b : Nat) (G : GFd) (t : Tabs G) (vc vf : Value) (c f : List Int) (n : Int) (w : World) (hg : IsGF w b G) (hc : Sl w vc c) (hf : Sl w vf f) (hcl : c.length ≤ 1000) (hn : ¬ ((t.pl c).a 0 = 1 ∧ (t.pl c).ln ≤ f.length + 1)) :
    Calls Try.prog 29 #[.pointer (some ⟨b, 0, none⟩), vc, vf, .int .i64 n] w fun e w' => e = .returned (.tuple #[.slice none 0 0, .int .i64 5]) ∧ Kept w w' := by
  obtain ⟨af, capf, rfl, _, ⟨hfm, _⟩, _⟩ := hf
  unfold maxLen at hfm
  go_enter Try.func29, Try.ntmps29
  go_wp2_with (fail)
  refine (canon_p b G t vc c _ hg hc (by omega)).mono ?_
  rintro e w1 ⟨v1, l1, rfl, o1, k1, c1, p1⟩
  have s1 := o1.sl
  have HF : Hid (decide (RegL l1 f.length) = false) := hid (decide_eq_false (fun h => hn (by
    obtain ⟨_, g1, g2⟩ := (regL_iff t _ c1 p1).1 h
    exact ⟨g1, by simpa using g2⟩)))
  clear p1 hn o1
  go_wp2_with (go_at_call 43; (with_reducible refine (isReg_any _ l1 f.length _ s1).mono ?_); rintro e w2 ⟨rfl, rfl⟩; rw [HF.out])
  go_ret2
  exact ⟨rfl, k1⟩
set_option maxRecDepth 100000 in
set_option maxHeartbeats 2000000 in
theorem generate_range (b : Nat) (G : GFd) (t : Tabs G) (vc vf : Value) (c f : List Int) (n : Int) (w : World) (hg : IsGF w b G) (hc : Sl w vc c) (hf : Sl w vf f) (hcl : c.length ≤ 1000) (h1 : (t.pl c).a 0 = 1) (h2 : (t.pl c).ln ≤ f.length + 1) (hn : n < 0 ∨ 4096 < n) :
    Calls Try.prog 29 #[.pointer (some ⟨b, 0, none⟩), vc, vf, .int .i64 n] w fun e w' => e = .returned (.tuple #[.slice none 0 0, .int .i64 6]) ∧ Kept w w' := by
  obtain ⟨af, capf, rfl, _, ⟨hfm, _⟩, _⟩ := hf
  unfold maxLen at hfm
  go_enter Try.func29, Try.ntmps29
  go_wp2_with (fail)
  refine (canon_p b G t vc c _ hg hc (by omega)).mono ?_
  rintro e w1 ⟨v1, l1, rfl, o1, k1, c1, p1⟩
  have s1 := o1.sl
  have HF : Hid (decide (RegL l1 f.length) = true) := hid (decide_eq_true ((regL_iff t _ c1 p1).2 ⟨by omega, h1, by simpa using h2⟩))
  clear p1 o1 h1 h2
  by_cases h0 : n < 0
  · clear hn
    go_wp2_with (go_at_call 43; (with_reducible refine (isReg_any _ l1 f.length _ s1).mono ?_); rintro e w2 ⟨rfl, rfl⟩; rw [HF.out])
    go_ret2
    exact ⟨rfl, k1⟩
  · have h3 : 4096 < n := by omega
    have h4 : 0 ≤ n := by omega
    clear hn h0
    go_wp2_with (go_at_call 43; (with_reducible refine (isReg_any _ l1 f.length _ s1).mono ?_); rintro e w2 ⟨rfl, rfl⟩; rw [HF.out])
    go_ret2
    exact ⟨rfl, k1⟩
set_option maxRecDepth 100000 in
set_option maxHeartbeats 4000000 in
theorem generate_any (b : Nat) (G : GFd) (t : Tabs G) (vc vf : Value) (c f : List Int) (n : Nat) (w : World) (hg : IsGF w b G) (hc : Sl w vc c) (hf : Sl w vf f) (hcl : c.length ≤ 1000) (h1 : (t.pl c).a 0 = 1) (h2 : (t.pl c).ln ≤ f.length + 1) (hn : n ≤ 4096) :
    Calls Try.prog 29 #[.pointer (some ⟨b, 0, none⟩), vc, vf, .int .i64 n] w fun e w' => ∃ v l, e = .returned (.tuple #[v, .int .i64 0]) ∧ Own w' w.heap.size v l ∧ Kept w w' ∧ GenP t c f l n n := by
  have hff := hf
  obtain ⟨af, capf, rfl, hcf, ⟨hfm, _⟩, _⟩ := hff
  unfold maxLen at hfm
  have hn0 : (0 : Int) ≤ (n : Int) := by omega
  have hn1 : (n : Int) ≤ 4096 := by omega
  go_enter Try.func29, Try.ntmps29
  go_wp2_with (fail)
  refine (canon_p b G t vc c _ hg hc (by omega)).mono ?_
  rintro e w1 ⟨v1, l1, rfl, o1, k1, c1, p1⟩
  have s1 := o1.sl
  have HF : Hid (decide (RegL l1 f.length) = true) := hid (decide_eq_true ((regL_iff t _ c1 p1).2 ⟨by omega, h1, by simpa using h2⟩))
  have hg1 := hg.kept k1
  have sf1 := hf.kept k1
  have P1 := hid p1
  have H1 := hid h1
  have hz1 := k1.size
  clear p1 o1 h1 h2
  go_wp2_with (first
    | (go_at_call 43; (with_reducible refine (isReg_any _ l1 f.length _ s1).mono ?_); rintro e w2 ⟨rfl, rfl⟩; rw [HF.out])
    | (at_make; refine wpList_make_ints rfl _ _ rfl n _ _ rfl rfl rfl rfl (by omega) ?_; intro w3 ho hk))
  obtain ⟨wL, hwL⟩ : ∃ x, x = w2 := ⟨_, rfl⟩
  subst hwL
  go_loopw [30] (fun vi wr => ∃ (j : Nat) (us : List Int), j ≤ n ∧ vi = .int .i64 j ∧ Own wr wL.heap.size (.slice (some ⟨wL.heap.size, 0, none⟩) n n) us ∧ Kept wL wr ∧ Hid (GenP t c f us n j)) (fun vi _ => n - (intOf vi).toNat)
  case atStart => exact ⟨0, _, by omega, rfl, ho, hk, hid (gen_start t c f n)⟩
  case round =>
    obtain ⟨j, us, hj, rfl, hown, hkw, hG⟩ := hrel
    clear ho hk
    by_cases hlt : j < n
    case neg =>
      obtain rfl : j = n := by omega
      clear hlt
      go_wp2_with (fail)
      go_ret2
      exact ⟨_, us, rfl, hown.mono hz1, k1.tr hkw, hG.out⟩
    have hgw := hg1.kept hkw
    have sw := s1.kept hkw
    have sfw := sf1.kept hkw
    have huw := hown.sl
    have hul : us.length = n := hG.out.len
    have hcu := hown.cell (i := j) (by omega)
    have hfu := hown.frozen j
    have hji : (j : Int) < (n : Int) := by omega
    have j0 : (0 : Int) ≤ (j : Int) := by omega
    by_cases hfl : j < f.length
    · have sf2 := sfw
      obtain ⟨_, _, e1, _, _, hcf'⟩ := sf2
      cases e1
      obtain ⟨bf, offf, e2, _, hcell⟩ := hcf' (by intro e; rw [e] at hfl; simp at hfl)
      cases e2
      have hck := hcell j hfl
      obtain ⟨z, hz⟩ : ∃ z, z = f.getD j 0 := ⟨_, rfl⟩
      rw [← hz] at hck
      obtain ⟨y, hy⟩ : ∃ y, y = inn G.q z := ⟨_, rfl⟩
      have HA : Hid (addG G z 0 = y) := hid (by rw [t.add_zero, hy])
      have hG' : Hid (GenP t c f (us.set j y) n (j + 1)) := hid (gen_set hG.out hlt (by rw [hy]; exact inn_bd (by have := t.qb; omega) _) (fun _ => by rw [hy, hz]) (fun h => by omega))
      have hfi : (j : Int) < (f.length : Int) := by omega
      clear hz hy hcell hcf' hul
      go_wp2_with (go_at_call 45; (with_reducible refine (add_any b G z 0 _ hgw t).mono ?_); rintro e w4 ⟨rfl, n4, rfl⟩; rw [HA.out])
      go_roundw
      case rel => exact ⟨j + 1, us.set j y, by omega, by go_num, (hown.drewN _).set j _, Below.setCell (hkw.drewN _) (p := ⟨wL.heap.size, j, none⟩) (Nat.le_refl _) _, hG'⟩
      case measure => simp [intOf]; omega
    · obtain ⟨y, hy⟩ : ∃ y, y = gpS G l1 us j l1.length := ⟨_, rfl⟩
      have HY : Hid (gpS G l1 us j l1.length = y) := hid hy.symm
      have he : t.e (negG G y) = -((t.pl c).a * t.po us) j := by rw [t.e_neg, hy, e_gap, P1.out]
      have hG' : Hid (GenP t c f (us.set j (negG G y)) n (j + 1)) := hid (gen_set hG.out hlt (t.neg_bd _) (fun h => absurd h hfl) (fun _ => gen_next hG.out hlt H1.out he))
      have hfi : (f.length : Int) ≤ (j : Int) := by omega
      have HUL : Hid (j < us.length) := hid (by omega)
      clear hy he hul
      go_wp2_with (first
        | (go_at_call 44; (with_reducible refine (gap_any b G t _ _ l1 us j _ hgw sw huw HUL.out).mono ?_); rintro e w4 ⟨rfl, n4, rfl⟩; rw [HY.out])
        | (go_at_call 46; (with_reducible refine (neg_any b G y _ (hgw.drewN _) t).mono ?_); rintro e w5 ⟨rfl, n5, rfl⟩))
      go_roundw
      case rel => exact ⟨j + 1, us.set j (negG G y), by omega, by go_num, (hown.drewN _).set j _, Below.setCell (hkw.drewN _) (p := ⟨wL.heap.size, j, none⟩) (Nat.le_refl _) _, hG'⟩
      case measure => simp [intOf]; omega
end Go.Proofs.Ytmakdclgpeochaa
