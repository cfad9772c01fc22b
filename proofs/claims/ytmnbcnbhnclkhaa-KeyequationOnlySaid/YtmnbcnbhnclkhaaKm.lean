/- The walk of Interpolate of polynomials. Conditions: the field lies in memory with its tables; lengths are bounded. -/
import Derived.Test.YtmnbcnbhnclkhaaKx
import Derived.Test.YtmnbcnbhnclkhaaKg
import Derived.Test.YtmnbcnbhnclkhaaMz
namespace Go.Proofs.Ytmnbcnbhnclkhaa
open Go.RowKit Cw

theorem ldsetB_eq (l : List Bool) {i : Nat} (h : i < l.length) (x : Bool) : (l.set i x).getD i false = x := by simp [List.getD, h]
theorem ldsetB_ne (l : List Bool) {i j : Nat} (h : i ≠ j) (x : Bool) : (l.set i x).getD j false = l.getD j false := by simp [List.getD, List.getElem?_set_ne h]
theorem interp_shape (b : Nat) (vx vy : Value) (xs ys : List Int) (w : World) (hvx : Sl w vx xs) (hvy : Sl w vy ys) (hne : xs.length ≠ ys.length) :
    Calls Try.prog 68 #[.pointer (some ⟨b, 0, none⟩), vx, vy] w fun e w' => e = .returned (.tuple #[.slice none 0 0, .int .i64 3]) ∧ Kept w w' := by
  obtain ⟨ax, capx, rfl, _, ⟨_, _⟩, _⟩ := hvx
  obtain ⟨ay, capy, rfl, _, ⟨_, _⟩, _⟩ := hvy
  have tl : ((xs.length : Int) != (ys.length : Int)) = true := by simp; omega
  clear hne
  go_enter Try.func68, Try.ntmps68
  go_wp2_with (fail)
  go_ret2
  exact ⟨rfl, Kept.rfl' _⟩
set_option maxRecDepth 100000 in
set_option maxHeartbeats 4000000 in
/-- m: the first index whose element has come before, or the length. -/
theorem interp_any (b : Nat) (G : GFd) (t : Tabs G) (vx vy : Value) (xs ys : List Int) (m : Nat) (w : World) (hg : IsGF w b G) (hvx : Sl w vx xs) (hvy : Sl w vy ys) (hlen : ys.length = xs.length) (hl : xs.length ≤ 1000)
    (hm : m ≤ xs.length) (hd : Hid (∀ i j, i < j → j < m → inn G.q (xs.getD i 0) ≠ inn G.q (xs.getD j 0))) (hx : Hid (m < xs.length → ∃ i, i < m ∧ inn G.q (xs.getD i 0) = inn G.q (xs.getD m 0))) :
    Calls Try.prog 68 #[.pointer (some ⟨b, 0, none⟩), vx, vy] w fun e w' =>
      (m < xs.length → e = .returned (.tuple #[.slice none 0 0, .int .i64 18]) ∧ Kept w w') ∧ (m = xs.length → OutE G t (Pl.nwt (fun i => t.e (xs.getD i 0)) (fun i => t.e (ys.getD i 0)) xs.length) w e w') := by
  obtain ⟨ax, capx, rfl, hcx, ⟨hcmx, _⟩, hc⟩ := hvx
  obtain ⟨ay, capy, rfl, hcy, ⟨hcmy, _⟩, hcc⟩ := hvy
  unfold maxLen at hcmx hcmy
  obtain ⟨q1, q2, -⟩ := t.qb
  have HQN : Hid (G.q = (G.q.toNat : Int)) := hid (by omega)
  have tl : ((xs.length : Int) != (ys.length : Int)) = false := by simp; omega
  have HY := hid hcc
  have HLEN := hid hlen
  clear hcc hlen
  go_enter Try.func68, Try.ntmps68
  go_wp2_with (first
    | (go_at_call 90; (with_reducible refine (order'_any b G _ hg).mono ?_); rintro e w1 ⟨rfl, n1, rfl⟩)
    | (at_make; refine wpList_make_bools rfl _ _ rfl G.q.toNat _ _ rfl rfl (by exact HQN.out) (by exact HQN.out) (by omega) ?_; intro w2 ho' hk'; have ho : OwnB w2 w.heap.size (.slice (some ⟨w.heap.size, 0, none⟩) G.q.toNat G.q.toNat) (List.replicate G.q.toNat false) := ho'; have hk : Kept w w2 := (kept_drewN w n1).tr hk'; clear ho' hk'))
  go_loopw [28] (fun vi wr => ∃ (k : Nat) (us : List Bool), k ≤ m ∧ vi = .int .i64 k ∧ OwnB wr w.heap.size (.slice (some ⟨w.heap.size, 0, none⟩) G.q.toNat G.q.toNat) us ∧ Hid (us.length = G.q.toNat) ∧ Hid (∀ j : Nat, us.getD j false = true ↔ ∃ i, i < k ∧ inn G.q (xs.getD i 0) = (j : Int)) ∧ Kept w wr) (fun vi _ => xs.length - (intOf vi).toNat)
  case atStart => exact ⟨0, _, by omega, rfl, ho, hid (by simp), hid (fun j => ⟨fun h => by
    exfalso
    by_cases hj : j < G.q.toNat
    · simp [List.getD, hj] at h
    · simp [List.getD, hj] at h, fun ⟨i, hi, _⟩ => by omega⟩), hk⟩
  case round =>
    obtain ⟨k, us, hkm, rfl, hown, hul, hus, hkw⟩ := hrel
    clear ho hk
    have hgw := hg.kept hkw
    by_cases hlt : k < xs.length
    · obtain ⟨bp, off, rfl, hbp, hcell⟩ := hc (by intro e; rw [e] at hlt; simp at hlt)
      have hck := (Kept.cell' hkw hbp).trans (hcell k hlt)
      obtain ⟨z, hz⟩ : ∃ z, z = xs.getD k 0 := ⟨_, rfl⟩
      have HX := hid hz
      rw [← hz] at hck
      have hb0 := inn_bd (q := G.q) (by omega) z
      obtain ⟨x, hxe⟩ := Int.eq_ofNat_of_zero_le hb0.1
      have HA : Hid (addG G z 0 = (x : Int)) := hid (by rw [t.add_zero, hxe])
      have hxq : x < G.q.toNat := by omega
      have hxl : (x : Int) < (G.q.toNat : Int) := by omega
      have x0 : (0 : Int) ≤ (x : Int) := by omega
      have hcS := hown.cell (i := x) (by rw [hul.out]; exact hxq)
      have hfS := hown.frozen x
      have hki : (k : Int) < (xs.length : Int) := by omega
      have k0 : (0 : Int) ≤ (k : Int) := by omega
      have HXE := hid hxe
      by_cases hk1 : k < m
      · have hf : us.getD x false = false := by
          rcases hb : us.getD x false with _ | _
          · rfl
          · obtain ⟨i, hi, he⟩ := (hus.out x).1 hb
            exact absurd (by rw [he, ← hz, hxe]) (hd.out i k hi hk1)
        rw [hf] at hcS
        have hus' : Hid (∀ j : Nat, (us.set x true).getD j false = true ↔ ∃ i, i < k + 1 ∧ inn G.q (xs.getD i 0) = (j : Int)) := hid (fun j => by
          by_cases e : x = j
          · subst e
            rw [ldsetB_eq _ (by rw [hul.out]; exact hxq)]
            exact ⟨fun _ => ⟨k, by omega, by rw [← hz, hxe]⟩, fun _ => rfl⟩
          · rw [ldsetB_ne _ e, hus.out j]
            refine ⟨fun ⟨i, hi, he⟩ => ⟨i, by omega, he⟩, fun ⟨i, hi, he⟩ => ?_⟩
            by_cases e2 : i = k
            · subst e2
              rw [← hz, hxe] at he
              exact absurd (by omega) e
            · exact ⟨i, by omega, he⟩)
        clear hz hcell hb0 hxe hf hc
        go_wp2_with (go_at_call 42; (with_reducible refine (add_any b G z 0 _ hgw t).mono ?_); rintro e w3 ⟨rfl, n3, rfl⟩; rw [HA.out])
        go_roundw
        case rel => exact ⟨k + 1, us.set x true, by omega, by go_num, (hown.kept (kept_drewN wr n3)).set x true, hid (by simp [hul.out]), hus', Below.setCell (hkw.drewN n3) (p := ⟨w.heap.size, x, none⟩) (Nat.le_refl _) (.bool true)⟩
        case measure => simp [intOf]; omega
      · have ek : k = m := by omega
        subst ek
        have hf : us.getD x false = true := by
          obtain ⟨i, hi, he⟩ := hx.out hlt
          exact (hus.out x).2 ⟨i, hi, by rw [he, ← hz, hxe]⟩
        rw [hf] at hcS
        clear hz hcell hb0 hxe hf hc
        go_wp2_with (go_at_call 42; (with_reducible refine (add_any b G z 0 _ hgw t).mono ?_); rintro e w3 ⟨rfl, n3, rfl⟩; rw [HA.out])
        go_ret2
        exact ⟨fun _ => ⟨rfl, hkw.drewN _⟩, fun h => absurd h (by omega)⟩
    · have ek : k = xs.length := by omega
      have em : m = xs.length := by omega
      have hge : (xs.length : Int) ≤ (k : Int) := by omega
      have hwb : w.heap.size ≤ wr.heap.size := hkw.size
      obtain ⟨wL, hwL⟩ : ∃ x, x = wr := ⟨_, rfl⟩
      subst hwL
      have kA := kept_alloc wL (.cells #[.int .i64 1] 3)
      have oA := own_one (w := wL) (B := w.heap.size) (x := 1) hwb
      have em := hid em
      clear ek
      go_wp2_with (fail)
      go_loopw [11, 12, 46] (fun vo vz vi w' => ∃ (k : Nat) (lo lz : List Int), k ≤ xs.length ∧ vi = .int .i64 k ∧ Own w' w.heap.size vo lo ∧ Own w' w.heap.size vz lz ∧ Kept wL w' ∧ Cano G lo ∧ Cano G lz ∧ Hid (t.pl lo = Pl.nwt (fun i => t.e (xs.getD i 0)) (fun i => t.e (ys.getD i 0)) k) ∧ Hid (t.pl lz = Pl.prf (fun i => t.e (xs.getD i 0)) k)) (fun _ _ vi _ => xs.length - (intOf vi).toNat)
      case atStart => exact ⟨0, [], [1], by omega, rfl, own_nil _ _, oA, kA, can_nil G, cano_one t, hid t.pl_nil, hid t.pl_one⟩
      case round =>
        obtain ⟨k, lo, lz, hk2, rfl, oo, oz, hk3, co, cz, hP, hZ⟩ := hrel
        clear oA kA
        have hkS := hkw.tr hk3
        have hgS := hg.kept hkS
        have hwS : w.heap.size ≤ wr.heap.size := hkS.size
        have no : lo.length ≤ 1000 := by have h1 := t.can_ln' co hP.out; have h2 := Pl.nwt_ln (fun i => t.e (xs.getD i 0)) (fun i => t.e (ys.getD i 0)) k; omega
        have nz : lz.length ≤ 1001 := by have h1 := t.can_ln' cz hZ.out; rw [Pl.ln_prf] at h1; omega
        by_cases hlt2 : k < xs.length
        · obtain ⟨bp, off, rfl, hbp, hcell⟩ := hc (by intro e; rw [e] at hlt2; simp at hlt2)
          obtain ⟨by', offy, rfl, hby, hcelly⟩ := HY.out (by intro e; have := HLEN.out; rw [e] at this; simp at this; omega)
          have hck := (Kept.cell' hkS hbp).trans (hcell k hlt2)
          have hcy := (Kept.cell' hkS hby).trans (hcelly k (by rw [HLEN.out]; exact hlt2))
          obtain ⟨z, hz⟩ : ∃ z, z = xs.getD k 0 := ⟨_, rfl⟩
          obtain ⟨y, hy⟩ : ∃ y, y = ys.getD k 0 := ⟨_, rfl⟩
          rw [← hz] at hck
          rw [← hy] at hcy
          obtain ⟨e1, he1⟩ : ∃ e1, e1 = evL G lo z := ⟨_, rfl⟩
          obtain ⟨e2, he2⟩ : ∃ e2, e2 = evL G lz z := ⟨_, rfl⟩
          obtain ⟨nd, hnd⟩ : ∃ nd, nd = addG G y (negG G e1) := ⟨_, rfl⟩
          obtain ⟨av, hav⟩ : ∃ av, av = mulG G nd (invG G e2) := ⟨_, rfl⟩
          have HE1 : Hid (evL G lo z = e1) := hid he1.symm
          have HE2 : Hid (evL G lz z = e2) := hid he2.symm
          have HND : Hid (addG G y (negG G e1) = nd) := hid hnd.symm
          have HAV : Hid (mulG G nd (invG G e2) = av) := hid hav.symm
          have h20 : inn G.q e2 ≠ 0 := by
            have em := em.out
            rw [he2, inn_yes (t.evL_bd _ _)]
            intro h
            have h1 := t.evL_zero.1 h
            rw [hZ.out, hz] at h1
            obtain ⟨i, hi, he⟩ := (Pl.ev_prf _ _ _).1 h1
            exact hd.out i k hi (by omega) (t.e_inn_eq.2 he)
          have H20 := hid h20
          have HST : Hid (Pl.nwt (fun i => t.e (xs.getD i 0)) (fun i => t.e (ys.getD i 0)) (k + 1) = t.pl lo + Pl.c (t.e av) * t.pl lz) := hid (by
            rw [hav, t.e_mul, t.e_invG h20, hnd, t.e_add, t.e_neg, he1, he2, t.e_evL, t.e_evL, hP.out, hZ.out, hz, hy, ← Rg.sub_def]
            rfl)
          have HSZ : Hid (Pl.prf (fun i => t.e (xs.getD i 0)) (k + 1) = t.pl lz * t.pl [negG G z, 1]) := hid (by rw [hZ.out, t.pl_lin, hz]; rfl)
          have soo := oo.sl
          have soz := oz.sl
          have hki : (k : Int) < (xs.length : Int) := by omega
          have hkiy : (k : Int) < (ys.length : Int) := by have := HLEN.out; omega
          have k0 : (0 : Int) ≤ (k : Int) := by omega
          clear hz hy he1 he2 hnd hav h20 hcell hcelly hc
          go_wp2_with (fail)
          go_quiet (first | (go_at_call 57; refine Calls.quiet_of ((eval_p b G t _ lo z _ (hgS.drewN _) (soo.kept (kept_drewN _ _))).mono (fun _ _ h => by rw [HE1.out] at h; exact h))) | (go_at_call 91; refine Calls.quiet_of ((sub_any b G y e1 _ (hgS.drewN _) t).mono (fun _ _ h => by rw [HND.out] at h; exact h))))
          go_wp2_with (fail)
          refine (eval_p b G t _ lz z _ (hgS.drewN _) (soz.kept (kept_drewN _ _))).mono ?_
          rintro e w5 ⟨rfl, m5, rfl⟩
          rw [HE2.out]
          go_wp2_with (fail)
          refine (div_ok b G nd e2 _ (hgS.drewN _) t H20.out).mono ?_
          rintro e w6 ⟨rfl, m6, rfl⟩
          rw [HAV.out]
          go_wp2_with (fail)
          refine (combine_p b G t _ _ lo lz _ av (hgS.drewN _) (soo.kept (kept_drewN _ _)) (soz.kept (kept_drewN _ _)) (by omega) (by omega)).mono ?_
          rintro e w7 ⟨v7, l7, rfl, o7, k7, c7, p7⟩
          have P7 : Hid (t.pl l7 = Pl.nwt (fun i => t.e (xs.getD i 0)) (fun i => t.e (ys.getD i 0)) (k + 1)) := hid (by rw [p7, HST.out])
          have k8 : Kept wr w7 := Kept.tr (kept_drewN _ _) k7
          have O7 := o7.mono (show w.heap.size ≤ _ from hwS)
          have hg7 := hgS.kept k8
          have sz7 := soz.kept k8
          clear p7 o7 k7
          go_wp2_with (fail)
          refine (neg_any b G z _ hg7 t).mono ?_
          rintro e w8 ⟨rfl, n8, rfl⟩
          have k9 := (kept_drewN w7 n8).tr (kept_alloc (w7.drewN n8) (.cells #[.int .i64 (negG G z), .int .i64 1] 3))
          have s9 : Sl ((w7.drewN n8).alloc (.cells #[.int .i64 (negG G z), .int .i64 1] 3)) (.slice (some ⟨w7.heap.size, 0, none⟩) 2 2) [negG G z, 1] := (own_two (w := w7.drewN n8) (B := 0) (Nat.zero_le _)).sl
          go_wp2_with (fail)
          refine (product_p b G t _ _ lz [negG G z, 1] _ (hg7.kept k9) (sz7.kept k9) s9 (by omega) (by simp)).mono ?_
          rintro e w10 ⟨v10, l10, rfl, o10, k10, c10, p10⟩
          have P10 : Hid (t.pl l10 = Pl.prf (fun i => t.e (xs.getD i 0)) (k + 1)) := hid (by rw [p10, HSZ.out])
          have kN := k9.tr k10
          have O7' := O7.kept kN
          have O10 := o10.mono (show w.heap.size ≤ _ from Nat.le_trans hwS (Nat.le_trans k8.size k9.size))
          have kZ := hk3.tr (k8.tr kN)
          clear p10
          go_wp2_with (fail)
          go_roundw
          case rel => exact ⟨k + 1, l7, l10, by omega, by go_num, O7', O10, kZ, c7, c10, P7, P10⟩
          case measure => simp [intOf]; omega
        · have ek : k = xs.length := by omega
          have hge2 : (xs.length : Int) ≤ (k : Int) := by omega
          have HF : Hid (t.pl lo = Pl.nwt (fun i => t.e (xs.getD i 0)) (fun i => t.e (ys.getD i 0)) xs.length) := hid (by rw [hP.out, ek])
          clear hlt2 ek
          go_wp2_with (fail)
          go_ret2
          exact ⟨fun h => absurd h (by have := em.out; omega), fun _ => ⟨_, lo, rfl, oo, hkS, co, HF.out⟩⟩
end Go.Proofs.Ytmnbcnbhnclkhaa
